import Derived.Test.YtfhhaadcodofnaaGreatScMChks
import Derived.Test.YtfhhaadcodofnaaGreatSc3Chks
import Derived.Maps.RangeRun
set_option linter.all false
set_option linter.unusedVariables false
namespace Go.L
open Go Go.Eng
def oS{ε σ:Type}(f:σ->ε->Option σ):σ->List ε->Option σ
 |s,[]=>some s
 |s,e::l=>bdO (f s e) fun j=>oS f j l
open Classical in
noncomputable def BK{ε σ β:Type}(es:List ε)(f:σ->ε->Option σ)(j:σ)(g:σ->Option β):Option β:=
 if h:∃r,∀p:List ε,p.Perm es->bdO (oS f j p) g=some r then some h.choose else none
theorem FZ{ε σ β:Type}{es:List ε}{f:σ->ε->Option σ}{j:σ}{g:σ->Option β}{r:β}(h:BK es f j g=some r):∀p:List ε,p.Perm es->bdO (oS f j p) g=some r:=by
 unfold BK at h;split at h
 ·rename_i hx;have:=hx.choose_spec;cases h;exact this
 ·cases h
theorem GV{ε σ β:Type}{es:List ε}{f:σ->ε->Option σ}{j:σ}{g:σ->Option β}{r:β}(h:∀p:List ε,p.Perm es->bdO (oS f j p) g=some r):BK es f j g=some r:=by
 unfold BK;have hx:∃r,∀p:List ε,p.Perm es->bdO (oS f j p) g=some r:=⟨r,h⟩;rw[dif_pos hx];have h1:=hx.choose_spec es (List.Perm.refl _);rw[h es (List.Perm.refl _)]at h1;exact h1.symm
theorem wh{ε σ:Type}{f:σ->ε->Option σ}:∀(l j:List ε) (s:σ),oS f s (l++j)=bdO (oS f s l) fun m=>oS f m j
 |[],j,s=>rfl
 |e::l,j,s=>by
  simp only[List.cons_append,oS];cases h:f s e with
  |none=>rfl
  |some m=>exact wh l j m
end Go.L
namespace Go.Eng
open Go Go.RowKit Go.L
variable[Dr]
variable{K:Nat}
theorem nodup_range{l:List Nat}{n:Nat}(j:l.Nodup)(m:∀i∈l,i<n):(l++(List.range n).filter fun i=>!l.contains i).Perm (List.range n):=by
 have h1:((List.range n).filter fun i=>l.contains i).Perm l:=by
  refine(List.perm_ext_iff_of_nodup (List.nodup_range.filter _) j).2 fun a=>?_
  simp only[List.mem_filter,List.mem_range,List.contains_iff_mem];exact⟨fun h=>h.2,fun h=>⟨m a h,h⟩⟩
 exact(h1.symm.append_right _).trans (List.filter_append_perm _ _)
theorem zB{ε:Type}[Inhabited ε]:∀(es:List ε),(List.range es.length).map (fun i=>es.getD i default)=es:=fun es=>by
 apply List.ext_getElem
 ·simp
 ·intro i h1 h2;simp[List.getD,h2]
theorem Gy{ε:Type}[Inhabited ε]{es:List ε}{l:List Nat}(j:l.Nodup)(m:∀i∈l,i<es.length):∃q,(l.map (fun i=>es.getD i default)++q).Perm es:=by
 refine⟨((List.range es.length).filter fun i=>!l.contains i).map fun i=>es.getD i default,?_⟩;rw[<-List.map_append];have:=(nodup_range j m).map fun i=>es.getD i default
 rwa[zB]at this
theorem Gs{ε:Type}[Inhabited ε]{es:List ε}{l:List Nat}(j:l.Nodup)(m:∀i∈l,i<es.length)(ha:∀i,i<es.length->i∈l):(l.map fun i=>es.getD i default).Perm es:=by
 have h1:l.Perm (List.range es.length):=(List.perm_ext_iff_of_nodup j List.nodup_range).2 fun a=>by simp only[List.mem_range];exact⟨m a,ha a⟩
 have:=h1.map fun i=>es.getD i default
 rwa[zB]at this
section
variable{P:Program}{out:Nat->Prop}{B:Nat->Prop}{w:World}{π:List (Option PB)}{H:List Blk}
theorem CI(O:Inv out B w π H){j m n:Nat}{seen:List Nat}{es:List (Value×AV)}{p:PB}(U:H[j]?=some (.iter m n seen))(hp:π[j]?=some (some p))(hm:H[m]?=some (.map es))(hn:es.length=n)(ty:TypeId):
  ((∀i,i<n->i∈seen)/\(Instr.next (.pointer (some ⟨p.blk,p.off+0,none⟩)) false ty).run P w=.ok (.tuple #[.bool false]) w)\/
  ∃i,i<n/\i∉seen/\∃(k v:Value) (w':World),(Instr.next (.pointer (some ⟨p.blk,p.off+0,none⟩)) false ty).run P w=.ok (.tuple #[.bool true,k,v]) w'/\
   EK K B w w' (aL out π H) (aL out π (H.set j (.iter m n (seen++[i])))) π π/\Inv out B w' π (H.set j (.iter m n (seen++[i])))/\∀A v,Rv w (aL out π H) π A v->Rv w' (aL out π (H.set j (.iter m n (seen++[i])))) π A v:=by
 obtain⟨ho,q,hq,hh⟩:=O.ok j _ p U hp;obtain⟨a,ha,T⟩:=O.ok m _ q hm hq;have hl:a.size=n:=by have:=RvM.len es a.toList 0 T;rw[<-hn];simpa using this
 have born:∀e∈a.toList,∃i,i<n/\e.born=i/\a.toList[i]?=some e:=by
  intro e he;obtain⟨i,I⟩:=List.getElem?_of_mem he;have J:i<es.length:=by have:=(List.getElem?_eq_some_iff.1 I).1;rw[RvM.len es a.toList 0 T]at this;exact this
  obtain⟨e',g1,_,g3,_⟩:=RvM.get es a.toList 0 i _ _ T (geT J);rw[I]at g1;cases g1;exact⟨i,by omega,by omega,I⟩
 have E:∀i,i<n->∃e∈a.toList,e.born=i:=by
  intro i I;obtain⟨e',g1,_,g3,_⟩:=RvM.get es a.toList 0 i _ _ T (geT (by omega:i<es.length));exact⟨e',List.mem_of_getElem? g1,by omega⟩
 have hold:∀x∈a.toList,x.born<n:=fun x hx=>by obtain⟨i,h1,h2,_⟩:=born x hx;omega
 rw[ho];rcases run_next_at (P:=P) w ty p.blk q.blk n n seen.toArray a a.size hh ha hold (Nat.le_refl _)with⟨h0,h1⟩|⟨e,he,w1,C,D⟩
 ·refine .inl ⟨fun i I=>?_,h1⟩;obtain⟨e,he,hb⟩:=E i I;have hz:leftOf a seen.toArray=#[]:=Array.eq_empty_of_size_eq_zero h0;cases hc:seen.contains i with
  |true=>simpa using hc
  |false=>
   have:e∈(leftOf a seen.toArray).toList:=by
    unfold leftOf;simp only[Array.toList_filter,List.mem_filter];refine⟨he,?_⟩;rw[hb];simpa using hc
   rw[hz]at this;simp at this
 ·right;unfold leftOf at he;simp only[Array.toList_filter,List.mem_filter]at he;obtain⟨Y,N⟩:=he;obtain⟨i,I,hb,_⟩:=born e Y;rw[hb]at N D;have a1:i∉seen:=by simpa using N
  rw[hl]at D;refine⟨i,I,a1,e.key,e.val,_,D,?_⟩;have z:w1.heap=w.heap:=by rcases C with rfl|rfl<;>rfl
  have a6:w1.os=w.os:=by rcases C with rfl|rfl<;>rfl
  have a7:w1.tape=w.tape:=by rcases C with rfl|rfl<;>rfl
  have a8:w1.output=w.output:=by rcases C with rfl|rfl<;>rfl
  have b0:w.drawn<=w1.drawn:=by
   rcases C with rfl|rfl
   ·exact Nat.le_refl _
   ·exact Nat.le_succ _
  have J:p.blk<w.heap.size:=(O.base j _ p U hp rfl).2;obtain⟨hE,b1⟩:=O.rm (w':=Go.ChangeMaps.setBlock w1 p.blk (.mapIter (some q.blk) n (seen.toArray.push i) n)) U hp rfl (.iter m n (seen++[i]))
   (by simp[Go.ChangeMaps.setBlock,z]) (fun b b3=>by simp[Go.ChangeMaps.setBlock,z,Array.getElem?_setIfInBounds,Ne.symm b3]) a6 a7 a8 (fun _=>b0)
   (fun hE=>⟨ho,q,hq,by simp[Go.ChangeMaps.setBlock,z,Array.getElem?_setIfInBounds,J]⟩)
  exact⟨hE.ek,b1,fun A v h=>Rv.ext hE A v h⟩
end
section
variable{P:Program}{k:List Fr}{F:X->St->Prop}
theorem CQ.next{id:Nat}{ty D:TypeId}{pos C:String}{N E:Array Edge}{it z mo j m n:Nat}{seen:List Nat}{es:List (Value×AV)}{s:List AV}{h:List Blk}
  (a7:vO s it=.hp j 0) (hj:h[j]?=some (.iter m n seen)) (hm:h[m]?=some (.map es)) (hn:es.length=n) (b4:z<s.length)
  (O:(∀i,i<n->i∈seen)->CQ K P k F .normal ⟨(s.set z .unk).set mo (.at (.bool false)),h⟩)
  (I:∀i,i<n->i∉seen->CQ K P k F .normal ⟨(s.set z .unk).set mo (.at (.bool true)),h.set j (.iter m n (seen++[i]))⟩):
  CQ K P (.c (.region id #[⟨some z,.next (.tmp it) false,ty,pos,N,none⟩,⟨some mo,.extract (.tmp z) 0,D,C,E,none⟩] false)::k) F .normal ⟨s,h⟩:=by
 intro out B w π a R hR hr;refine wp_region ?_;have hI:=hR.inv;have q:=hR.slots;simp only at hI q;have T:=lT q it;rw[a7]at T;obtain⟨p,hp,hv⟩:=T;have hlen:a.tmps.size=s.length:=by have:=RvL.length _ _ q;simpa using this
 show wpOps P _ _ [0,1] a w;have U:∀(u:Value) (w':World),(Instr.next (.pointer (some ⟨p.blk,p.off+0,none⟩)) false ty).run P w=.ok u w'->
   (execOp a.eval ⟨some z,.next (.tmp it) false,ty,pos,N,none⟩).run P w=.ok (.value u) w':=by
  intro u w' hu;have he:a.eval (.tmp it)=.pointer (some ⟨p.blk,p.off+0,none⟩):=hv;simp only[execOp,he,Sem.run_bind,hu,Result.andThen_ok,Sem.run_pure]
 have Y:∀(b:Bool) (us:List Value) (w':World),(execOp (a.put (some z) (.tuple (.bool b::us).toArray)).eval ⟨some mo,.extract (.tmp z) 0,D,C,E,none⟩).run P w'=.ok (.value (.bool b)) w':=by
  intro b us w';have he:(a.put (some z) (.tuple (.bool b::us).toArray)).eval (.tmp z)=.tuple (.bool b::us).toArray:=by
   show(a.tmps.setIfInBounds z _).getD z undef=_;rw[Array.getD_eq_getD_getElem?,Array.getElem?_setIfInBounds,if_pos rfl,if_pos (by omega)];rfl
  simp only[execOp,he,Instr.extract,Sem.run_bind,Sem.run_pure,Result.andThen_ok];simp
 have step:∀(b:Bool) (us:List Value) (w':World) (J:List Blk),(Instr.next (.pointer (some ⟨p.blk,p.off+0,none⟩)) false ty).run P w=.ok (.tuple (.bool b::us).toArray) w'->
   (∀A v,Rv w (aL out π h) π A v->Rv w' (aL out π J) π A v)->EK K B w w' (aL out π h) (aL out π J) π π->Inv out B w' π J->
   CQ K P k F .normal ⟨(s.set z .unk).set mo (.at (.bool b)),J⟩->
   wpOps P #[⟨some z,.next (.tmp it) false,ty,pos,N,none⟩,⟨some mo,.extract (.tmp z) 0,D,C,E,none⟩] R [0,1] a w:=by
  intro b us w' J a1 a6 hE a8 hq;have sl:RvL w' (aL out π J) π s a.tmps.toList:=RvL.oC _ _ (RvL.length _ _ q) fun i c v h1 h2=>by
   obtain⟨v',g1,g2⟩:=RvL.get _ _ i c q h1;rw[h2]at g1;cases g1;exact a6 _ _ g2
  have b0:=vS (dst:=some z) (A:=.unk) (v:=.tuple (.bool b::us).toArray) sl trivial;have b1:=vS (a:=a.put (some z) (.tuple (.bool b::us).toArray)) (dst:=some mo) (A:=.at (.bool b)) (v:=.bool b) b0 rfl;have g0:(#[⟨some z,.next (.tmp it) false,ty,pos,N,none⟩,⟨some mo,.extract (.tmp z) 0,D,C,E,none⟩]:Array Oper)[0]?=some ⟨some z,.next (.tmp it) false,ty,pos,N,none⟩:=rfl;have g1:(#[⟨some z,.next (.tmp it) false,ty,pos,N,none⟩,⟨some mo,.extract (.tmp z) 0,D,C,E,none⟩]:Array Oper)[1]?=some ⟨some mo,.extract (.tmp z) 0,D,C,E,none⟩:=rfl;simp only[wpOps,g0,g1];rw[if_pos (by rfl)];refine .inl ?_;unfold Oper.wp;rw[U _ _ a1];rw[Oper.upon_value];rw[if_pos (by rfl)];refine .inl ?_;rw[Y b us w',Oper.upon_value];exact hr .normal ⟨_,J⟩ _ w' π hq ⟨by rw[put_defers,put_defers];exact hR.defers,b1,a8⟩ hE
 rcases CI (K:=K) (P:=P) hI hj hp hm hn ty with⟨h1,h2⟩|⟨i,hi,b3,kv,v,w',h2,h3,h4,h5⟩
 ·exact step false [] w h h2 (fun _ _ h=>h) EK.id hI (O h1)
 ·exact step true [kv,v] w' _ h2 h5 h3 h4 (I i hi b3)
theorem CQ.Iq{ε σ β:Type}[Inhabited ε]{es:List ε}{f:σ->ε->Option σ}{s0:σ}{g:σ->Option β}{r:β}(hr:BK es f s0 g=some r){mk:ε->Value×AV}(T:σ->List Nat->St)
  {id:Nat} {ty a7:TypeId} {pos O:String} {af a8:Array Edge} {it D mo nb ob:Nat} {rest:Code} {st:St} (j m:Nat)
  (hw:Wk K st (T s0 []))
  (hb:∀z sn i e U G,es[i]?=some e->f z e=some U->(∀st',Wk K st' (T U (sn++[i]))->G .normal st')->CQ K P [.c (.block nb rest)] G .normal ⟨((T z sn).slots.set D .unk).set mo (.at (.bool true)),(T z sn).heap.set j (.iter m es.length (sn++[i]))⟩)
  (ha:∀z sn,g z=some r->CQ K P k F (.exit ob) ⟨((T z sn).slots.set D .unk).set mo (.at (.bool false)),(T z sn).heap⟩)
  (b0:∀z sn,vO (T z sn).slots it=.hp j 0:=by intros;kernel_rfl) (hj:∀z sn,(T z sn).heap[j]?=some (.iter m es.length sn):=by intros;kernel_rfl) (hm:∀z sn,(T z sn).heap[m]?=some (.map (es.map mk)):=by intros;kernel_rfl)
  (b1:∀z sn,Nat.blt D (T z sn).slots.length=true:=by intros;kernel_rfl) (Y:∀z sn b,vO (((T z sn).slots.set D .unk).set mo (.at (.bool b))) mo=.at (.bool b):=by intros;kernel_rfl):
  CQ K P (.c (.loop (.seq (.region id #[⟨some D,.next (.tmp it) false,ty,pos,af,none⟩,⟨some mo,.extract (.tmp D) 0,a7,O,a8,none⟩] false) (.seq (.cond (.tmp mo) .skip (.exit ob)) (.block nb rest))))::k) F .normal st:=by
 have C:=FZ hr;obtain⟨I,hI⟩:∃I:Nat->σ×List Nat->Prop,I=fun N q=>q.2.Nodup/\(∀i∈q.2,i<es.length)/\oS f s0 (q.2.map fun i=>es.getD i default)=some q.1/\es.length-q.2.length=N:=⟨_,rfl⟩
 refine CQ.loop (fun q:σ×List Nat=>T q.1 q.2) I (fun x st'=>x=.exit ob/\∃z sn,g z=some r/\st'=⟨((T z sn).slots.set D .unk).set mo (.at (.bool false)),(T z sn).heap⟩) (m:=es.length) (s0,[]) (by rw[hI];exact⟨List.nodup_nil,by simp,rfl,by simp⟩) hw ?_ ?_
 ·rintro N ⟨z,sn⟩ a1;rw[hI]at a1;obtain⟨i1,i2,i3,i4⟩:=a1;dsimp only at i1 i2 i3 i4;refine CQ.seq (CQ.next (b0 z sn) (hj z sn) (hm z sn) (by simp) (lbT (b1 z sn)) (fun a6=>?_) (fun i hi b3=>?_))
  ·refine CQ.seq (CQ.cond (t:=false) (Y z sn false) (fun h=>by cases h) (fun _=>CQ.FB ?_));refine⟨rfl,z,sn,?_,rfl⟩;have:=C _ (Gs i1 i2 a6);rw[i3]at this;exact this
  ·refine CQ.seq (CQ.cond (t:=true) (Y z sn true) (fun _=>CQ.skip ?_) (fun h=>by cases h));have E:(sn++[i]).Nodup:=by
    rw[List.nodup_append];exact⟨i1,by simp,fun a ha b hb=>by rintro rfl;simp at hb;exact b3 (hb▸ha)⟩
   have J:∀a∈sn++[i],a<es.length:=fun a ha=>by
    rcases List.mem_append.1 ha with h|h
    ·exact i2 a h
    ·simp at h;omega
   obtain⟨l',b4⟩:=Gy E J;have hp:=C _ b4;rw[List.map_append,List.append_assoc,wh,i3]at hp;have he:es[i]?=some (es.getD i default):=by simp[List.getD,geT hi]
   cases hf:f z (es.getD i default)with
   |none=>
    have e2:bdO (some z) (fun s'=>oS f s' (List.map (fun i=>es.getD i default) [i]++l'))=none:=by
     show bdO (f z (es.getD i default)) _=none;rw[hf];rfl
    rw[e2]at hp;cases hp
   |some U=>
    refine hb z sn i _ U _ he hf fun st' b5=>?_
    refine⟨N-1,(U,sn++[i]),?_,?_,b5⟩
    ·have:sn.length<es.length:=by
      have h1:=(nodup_range E J).length_eq;simp only[List.length_append,List.length_range,List.length_singleton]at h1;omega
     omega
    ·rw[hI];refine⟨E,J,?_,by simp;omega⟩;rw[List.map_append,wh,i3];show bdO (f z (es.getD i default)) _=_;rw[hf];rfl
 ·rintro x st' ⟨rfl,z,sn,hg,rfl⟩;exact ha z sn hg
theorem GJ{P:Program}{H:List Blk}{ε:Type}{es:List ε}{mk:ε->Value×AV}{t kt e:TypeId}{b nid:Nat}(hu:P.underlying t=some (.map kt e))(hb:H[b]?=some (.map (es.map mk))):
  ow P H nid t (.mp b)=some (.eff (.hp nid 0) [(nid,.iter b es.length [])]):=by
 simp only[ow,hu,lq,hb,List.length_map]
theorem GC{P:Program}{H:List Blk}{ε:Type}{es:List ε}{mk:ε->Value×AV}{e:ε}{j m i:Nat}{sn:List Nat}(q:H[j]?=some (.iter m es.length (sn++[i])))(hm:H[m]?=some (.map (es.map mk)))(he:es[i]?=some e):
  jE H (.hp j 0)=some (.pure (.tup [IE (mk e).1,(mk e).2])):=by
 have z:decide ((es.map mk).length=es.length)=true:=by simp
 have hx:(sn++[i]).getLast?=some i:=by simp
 have C:(es.map mk)[i]?=some (mk e):=by simp[he]
 simp only[jE,sD,q,hm,z,hx,C]
end
end Go.Eng

