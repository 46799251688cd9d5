import Derived.Test.YtglimpjlhfjgdaaGreatScMSlds
import Derived.Test.YtglimpjlhfjgdaaGreatSc3Slds
import Derived.Maps.RangeRun
set_option linter.all false
set_option linter.unusedVariables false
namespace Go.L
open Go Go.Eng
def kY{ε σ:Type}(f:σ->ε->Option σ):σ->List ε->Option σ
 |s,[]=>some s
 |s,e::l=>bdO (f s e) fun j=>kY f j l
open Classical in
noncomputable def zf{ε σ β:Type}(es:List ε)(f:σ->ε->Option σ)(j:σ)(g:σ->Option β):Option β:=
 if h:∃r,∀p:List ε,p.Perm es->bdO (kY f j p) g=some r then some h.choose else none
theorem FV{ε σ β:Type}{es:List ε}{f:σ->ε->Option σ}{j:σ}{g:σ->Option β}{r:β}(h:zf es f j g=some r):∀p:List ε,p.Perm es->bdO (kY f j p) g=some r:=by
 unfold zf at h;split at h
 ·rename_i m;have:=m.choose_spec;cases h;exact this
 ·cases h
theorem DA{ε σ β:Type}{es:List ε}{f:σ->ε->Option σ}{j:σ}{g:σ->Option β}{r:β}(h:∀p:List ε,p.Perm es->bdO (kY f j p) g=some r):zf es f j g=some r:=by
 unfold zf;have m:∃r,∀p:List ε,p.Perm es->bdO (kY f j p) g=some r:=⟨r,h⟩;rw[dif_pos m];have h1:=m.choose_spec es (List.Perm.refl _);rw[h es (List.Perm.refl _)]at h1;exact h1.symm
theorem uj{ε σ:Type}{f:σ->ε->Option σ}:∀(l j:List ε) (s:σ),kY f s (l++j)=bdO (kY f s l) fun m=>kY f m j
 |[],j,s=>rfl
 |e::l,j,s=>by
  simp only[List.cons_append,kY];cases h:f s e with
  |none=>rfl
  |some m=>exact uj l j m
end Go.L
namespace Go.Eng
open Go Go.RowKit Go.L
variable[Dr]
variable{K:Nat}
theorem nodup_range{l:List Nat}{n:Nat}(j:l.Nodup)(m:∀i∈l,i<n):(l++(List.range n).filter fun i=>!l.contains i).Perm (List.range n):=by
 have h1:((List.range n).filter fun i=>l.contains i).Perm l:=by
  refine(List.perm_ext_iff_of_nodup (List.nodup_range.filter _) j).2 fun a=>?_
  simp only[List.mem_filter,List.mem_range,List.contains_iff_mem];exact⟨fun h=>h.2,fun h=>⟨m a h,h⟩⟩
 exact(h1.symm.append_right _).trans (List.filter_append_perm _ _)
theorem yU{ε:Type}[Inhabited ε]:∀(es:List ε),(List.range es.length).map (fun i=>es.getD i default)=es:=fun es=>by
 apply List.ext_getElem
 ·simp
 ·intro i h1 h2;simp[List.getD,h2]
theorem Hq{ε:Type}[Inhabited ε]{es:List ε}{l:List Nat}(j:l.Nodup)(m:∀i∈l,i<es.length):∃p,(l.map (fun i=>es.getD i default)++p).Perm es:=by
 refine⟨((List.range es.length).filter fun i=>!l.contains i).map fun i=>es.getD i default,?_⟩;rw[<-List.map_append];have:=(nodup_range j m).map fun i=>es.getD i default
 rwa[yU]at this
theorem Fg{ε:Type}[Inhabited ε]{es:List ε}{l:List Nat}(j:l.Nodup)(m:∀i∈l,i<es.length)(p:∀i,i<es.length->i∈l):(l.map fun i=>es.getD i default).Perm es:=by
 have h1:l.Perm (List.range es.length):=(List.perm_ext_iff_of_nodup j List.nodup_range).2 fun a=>by simp only[List.mem_range];exact⟨m a,p a⟩
 have:=h1.map fun i=>es.getD i default
 rwa[yU]at this
section
variable{P:Program}{out:Nat->Prop}{B:Nat->Prop}{w:World}{π:List (Option PB)}{H:List Blk}
theorem Cf(M:Inv out B w π H){j m n:Nat}{seen:List Nat}{es:List (Value×AV)}{p:PB}(O:H[j]?=some (.iter m n seen))(hp:π[j]?=some (some p))(hm:H[m]?=some (.map es))(hn:es.length=n)(ty:TypeId):
  ((∀i,i<n->i∈seen)/\(Instr.next (.pointer (some ⟨p.blk,p.off+0,none⟩)) false ty).run P w=.ok (.tuple #[.bool false]) w)\/
  ∃i,i<n/\i∉seen/\∃(k v:Value) (w':World),(Instr.next (.pointer (some ⟨p.blk,p.off+0,none⟩)) false ty).run P w=.ok (.tuple #[.bool true,k,v]) w'/\
   EK K B w w' (aI out π H) (aI out π (H.set j (.iter m n (seen++[i])))) π π/\Inv out B w' π (H.set j (.iter m n (seen++[i])))/\∀A v,Rv w (aI out π H) π A v->Rv w' (aI out π (H.set j (.iter m n (seen++[i])))) π A v:=by
 obtain⟨ho,q,hq,hh⟩:=M.ok j _ p O hp;obtain⟨a,ha,N⟩:=M.ok m _ q hm hq;have hl:a.size=n:=by have:=RvM.len es a.toList 0 N;rw[<-hn];simpa using this
 have born:∀e∈a.toList,∃i,i<n/\e.born=i/\a.toList[i]?=some e:=by
  intro e he;obtain⟨i,hi⟩:=List.getElem?_of_mem he;have I:i<es.length:=by have:=(List.getElem?_eq_some_iff.1 hi).1;rw[RvM.len es a.toList 0 N]at this;exact this
  obtain⟨e',g1,_,g3,_⟩:=RvM.get es a.toList 0 i _ _ N (geT I);rw[hi]at g1;cases g1;exact⟨i,by omega,by omega,hi⟩
 have E:∀i,i<n->∃e∈a.toList,e.born=i:=by
  intro i hi;obtain⟨e',g1,_,g3,_⟩:=RvM.get es a.toList 0 i _ _ N (geT (by omega:i<es.length));exact⟨e',List.mem_of_getElem? g1,by omega⟩
 have hold:∀x∈a.toList,x.born<n:=fun x hx=>by obtain⟨i,h1,h2,_⟩:=born x hx;omega
 rw[ho];rcases run_next_at (P:=P) w ty p.blk q.blk n n seen.toArray a a.size hh ha hold (Nat.le_refl _)with⟨h0,h1⟩|⟨e,he,w1,C,D⟩
 ·refine .inl ⟨fun i hi=>?_,h1⟩;obtain⟨e,he,T⟩:=E i hi;have hz:leftOf a seen.toArray=#[]:=Array.eq_empty_of_size_eq_zero h0;cases hc:seen.contains i with
  |true=>simpa using hc
  |false=>
   have:e∈(leftOf a seen.toArray).toList:=by
    unfold leftOf;simp only[Array.toList_filter,List.mem_filter];refine⟨he,?_⟩;rw[T];simpa using hc
   rw[hz]at this;simp at this
 ·right;unfold leftOf at he;simp only[Array.toList_filter,List.mem_filter]at he;obtain⟨U,J⟩:=he;obtain⟨i,hi,T,_⟩:=born e U;rw[T]at J D;have Y:i∉seen:=by simpa using J
  rw[hl]at D;refine⟨i,hi,Y,e.key,e.val,_,D,?_⟩;have z:w1.heap=w.heap:=by rcases C with rfl|rfl<;>rfl
  have a1:w1.os=w.os:=by rcases C with rfl|rfl<;>rfl
  have a6:w1.tape=w.tape:=by rcases C with rfl|rfl<;>rfl
  have a7:w1.output=w.output:=by rcases C with rfl|rfl<;>rfl
  have a8:w.drawn<=w1.drawn:=by
   rcases C with rfl|rfl
   ·exact Nat.le_refl _
   ·exact Nat.le_succ _
  have I:p.blk<w.heap.size:=(M.base j _ p O hp rfl).2;obtain⟨hE,b0⟩:=M.pv (w':=Go.ChangeMaps.setBlock w1 p.blk (.mapIter (some q.blk) n (seen.toArray.push i) n)) O hp rfl (.iter m n (seen++[i]))
   (by simp[Go.ChangeMaps.setBlock,z]) (fun b b1=>by simp[Go.ChangeMaps.setBlock,z,Array.getElem?_setIfInBounds,Ne.symm b1]) a1 a6 a7 (fun _=>a8)
   (fun hE=>⟨ho,q,hq,by simp[Go.ChangeMaps.setBlock,z,Array.getElem?_setIfInBounds,I]⟩)
  exact⟨hE.ek,b0,fun A v h=>Rv.ext hE A v h⟩
end
section
variable{P:Program}{k:List Fr}{F:X->St->Prop}
theorem CQ.next{id:Nat}{ty D:TypeId}{pos C:String}{M E:Array Edge}{it z mo j m n:Nat}{seen:List Nat}{es:List (Value×AV)}{s:List AV}{h:List Blk}
  (a6:uv s it=.hp j 0) (hj:h[j]?=some (.iter m n seen)) (hm:h[m]?=some (.map es)) (hn:es.length=n) (b3:z<s.length)
  (N:(∀i,i<n->i∈seen)->CQ K P k F .normal ⟨(s.set z .unk).set mo (.at (.bool false)),h⟩)
  (I:∀i,i<n->i∉seen->CQ K P k F .normal ⟨(s.set z .unk).set mo (.at (.bool true)),h.set j (.iter m n (seen++[i]))⟩):
  CQ K P (.c (.region id #[⟨some z,.next (.tmp it) false,ty,pos,M,none⟩,⟨some mo,.extract (.tmp z) 0,D,C,E,none⟩] false)::k) F .normal ⟨s,h⟩:=by
 intro out B w π a R hR hr;refine wp_region ?_;have hI:=hR.inv;have q:=hR.slots;simp only at hI q;have O:=jG q it;rw[a6]at O;obtain⟨p,hp,hv⟩:=O;have hlen:a.tmps.size=s.length:=by have:=RvL.length _ _ q;simpa using this
 show wpOps P _ _ [0,1] a w;have T:∀(u:Value) (w':World),(Instr.next (.pointer (some ⟨p.blk,p.off+0,none⟩)) false ty).run P w=.ok u w'->
   (execOp a.eval ⟨some z,.next (.tmp it) false,ty,pos,M,none⟩).run P w=.ok (.value u) w':=by
  intro u w' hu;have he:a.eval (.tmp it)=.pointer (some ⟨p.blk,p.off+0,none⟩):=hv;simp only[execOp,he,Sem.run_bind,hu,Result.andThen_ok,Sem.run_pure]
 have U:∀(b:Bool) (us:List Value) (w':World),(execOp (a.put (some z) (.tuple (.bool b::us).toArray)).eval ⟨some mo,.extract (.tmp z) 0,D,C,E,none⟩).run P w'=.ok (.value (.bool b)) w':=by
  intro b us w';have he:(a.put (some z) (.tuple (.bool b::us).toArray)).eval (.tmp z)=.tuple (.bool b::us).toArray:=by
   show(a.tmps.setIfInBounds z _).getD z undef=_;rw[Array.getD_eq_getD_getElem?,Array.getElem?_setIfInBounds,if_pos rfl,if_pos (by omega)];rfl
  simp only[execOp,he,Instr.extract,Sem.run_bind,Sem.run_pure,Result.andThen_ok];simp
 have step:∀(b:Bool) (us:List Value) (w':World) (J:List Blk),(Instr.next (.pointer (some ⟨p.blk,p.off+0,none⟩)) false ty).run P w=.ok (.tuple (.bool b::us).toArray) w'->
   (∀A v,Rv w (aI out π h) π A v->Rv w' (aI out π J) π A v)->EK K B w w' (aI out π h) (aI out π J) π π->Inv out B w' π J->
   CQ K P k F .normal ⟨(s.set z .unk).set mo (.at (.bool b)),J⟩->
   wpOps P #[⟨some z,.next (.tmp it) false,ty,pos,M,none⟩,⟨some mo,.extract (.tmp z) 0,D,C,E,none⟩] R [0,1] a w:=by
  intro b us w' J Y a1 hE a7 hq;have sl:RvL w' (aI out π J) π s a.tmps.toList:=RvL.ml _ _ (RvL.length _ _ q) fun i c v h1 h2=>by
   obtain⟨v',g1,g2⟩:=RvL.get _ _ i c q h1;rw[h2]at g1;cases g1;exact a1 _ _ g2
  have a8:=uw (dst:=some z) (A:=.unk) (v:=.tuple (.bool b::us).toArray) sl trivial;have b0:=uw (a:=a.put (some z) (.tuple (.bool b::us).toArray)) (dst:=some mo) (A:=.at (.bool b)) (v:=.bool b) a8 rfl;have g0:(#[⟨some z,.next (.tmp it) false,ty,pos,M,none⟩,⟨some mo,.extract (.tmp z) 0,D,C,E,none⟩]:Array Oper)[0]?=some ⟨some z,.next (.tmp it) false,ty,pos,M,none⟩:=rfl;have g1:(#[⟨some z,.next (.tmp it) false,ty,pos,M,none⟩,⟨some mo,.extract (.tmp z) 0,D,C,E,none⟩]:Array Oper)[1]?=some ⟨some mo,.extract (.tmp z) 0,D,C,E,none⟩:=rfl;simp only[wpOps,g0,g1];rw[if_pos (by rfl)];refine .inl ?_;unfold Oper.wp;rw[T _ _ Y];rw[Oper.upon_value];rw[if_pos (by rfl)];refine .inl ?_;rw[U b us w',Oper.upon_value];exact hr .normal ⟨_,J⟩ _ w' π hq ⟨by rw[put_defers,put_defers];exact hR.defers,b0,a7⟩ hE
 rcases Cf (K:=K) (P:=P) hI hj hp hm hn ty with⟨h1,h2⟩|⟨i,hi,b1,kv,v,w',h2,h3,h4,h5⟩
 ·exact step false [] w h h2 (fun _ _ h=>h) EK.id hI (N h1)
 ·exact step true [kv,v] w' _ h2 h5 h3 h4 (I i hi b1)
theorem CQ.Fp{ε σ β:Type}[Inhabited ε]{es:List ε}{f:σ->ε->Option σ}{s0:σ}{g:σ->Option β}{r:β}(hr:zf es f s0 g=some r){mk:ε->Value×AV}(T:σ->List Nat->St)
  {id:Nat} {ty a6:TypeId} {pos J:String} {af a7:Array Edge} {it C mo nb ob:Nat} {rest:Code} {st:St} (j m:Nat)
  (hw:Wk K st (T s0 []))
  (hb:∀z sn i e M G,es[i]?=some e->f z e=some M->(∀st',Wk K st' (T M (sn++[i]))->G .normal st')->CQ K P [.c (.block nb rest)] G .normal ⟨((T z sn).slots.set C .unk).set mo (.at (.bool true)),(T z sn).heap.set j (.iter m es.length (sn++[i]))⟩)
  (O:∀z sn,g z=some r->CQ K P k F (.exit ob) ⟨((T z sn).slots.set C .unk).set mo (.at (.bool false)),(T z sn).heap⟩)
  (a8:∀z sn,uv (T z sn).slots it=.hp j 0:=by intros;kernel_rfl) (hj:∀z sn,(T z sn).heap[j]?=some (.iter m es.length sn):=by intros;kernel_rfl) (hm:∀z sn,(T z sn).heap[m]?=some (.map (es.map mk)):=by intros;kernel_rfl)
  (b0:∀z sn,Nat.blt C (T z sn).slots.length=true:=by intros;kernel_rfl) (U:∀z sn b,uv (((T z sn).slots.set C .unk).set mo (.at (.bool b))) mo=.at (.bool b):=by intros;kernel_rfl):
  CQ K P (.c (.loop (.seq (.region id #[⟨some C,.next (.tmp it) false,ty,pos,af,none⟩,⟨some mo,.extract (.tmp C) 0,a6,J,a7,none⟩] false) (.seq (.cond (.tmp mo) .skip (.exit ob)) (.block nb rest))))::k) F .normal st:=by
 have p:=FV hr;obtain⟨I,hI⟩:∃I:Nat->σ×List Nat->Prop,I=fun N q=>q.2.Nodup/\(∀i∈q.2,i<es.length)/\kY f s0 (q.2.map fun i=>es.getD i default)=some q.1/\es.length-q.2.length=N:=⟨_,rfl⟩
 refine CQ.loop (fun q:σ×List Nat=>T q.1 q.2) I (fun x st'=>x=.exit ob/\∃z sn,g z=some r/\st'=⟨((T z sn).slots.set C .unk).set mo (.at (.bool false)),(T z sn).heap⟩) (m:=es.length) (s0,[]) (by rw[hI];exact⟨List.nodup_nil,by simp,rfl,by simp⟩) hw ?_ ?_
 ·rintro N ⟨z,sn⟩ Y;rw[hI]at Y;obtain⟨i1,i2,i3,i4⟩:=Y;dsimp only at i1 i2 i3 i4;refine CQ.seq (CQ.next (a8 z sn) (hj z sn) (hm z sn) (by simp) (lbT (b0 z sn)) (fun a1=>?_) (fun i hi b1=>?_))
  ·refine CQ.seq (CQ.cond (t:=false) (U z sn false) (fun h=>by cases h) (fun _=>CQ.FH ?_));refine⟨rfl,z,sn,?_,rfl⟩;have:=p _ (Fg i1 i2 a1);rw[i3]at this;exact this
  ·refine CQ.seq (CQ.cond (t:=true) (U z sn true) (fun _=>CQ.skip ?_) (fun h=>by cases h));have D:(sn++[i]).Nodup:=by
    rw[List.nodup_append];exact⟨i1,by simp,fun a O b hb=>by rintro rfl;simp at hb;exact b1 (hb▸O)⟩
   have E:∀a∈sn++[i],a<es.length:=fun a O=>by
    rcases List.mem_append.1 O with h|h
    ·exact i2 a h
    ·simp at h;omega
   obtain⟨l',b3⟩:=Hq D E;have hp:=p _ b3;rw[List.map_append,List.append_assoc,uj,i3]at hp;have he:es[i]?=some (es.getD i default):=by simp[List.getD,geT hi]
   cases hf:f z (es.getD i default)with
   |none=>
    have e2:bdO (some z) (fun s'=>kY f s' (List.map (fun i=>es.getD i default) [i]++l'))=none:=by
     show bdO (f z (es.getD i default)) _=none;rw[hf];rfl
    rw[e2]at hp;cases hp
   |some M=>
    refine hb z sn i _ M _ he hf fun st' b4=>?_
    refine⟨N-1,(M,sn++[i]),?_,?_,b4⟩
    ·have:sn.length<es.length:=by
      have h1:=(nodup_range D E).length_eq;simp only[List.length_append,List.length_range,List.length_singleton]at h1;omega
     omega
    ·rw[hI];refine⟨D,E,?_,by simp;omega⟩;rw[List.map_append,uj,i3];show bdO (f z (es.getD i default)) _=_;rw[hf];rfl
 ·rintro x st' ⟨rfl,z,sn,hg,rfl⟩;exact O z sn hg
theorem DD{P:Program}{H:List Blk}{ε:Type}{es:List ε}{mk:ε->Value×AV}{t kt e:TypeId}{b nid:Nat}(hu:P.underlying t=some (.map kt e))(j:H[b]?=some (.map (es.map mk))):
  kH P H nid t (.mp b)=some (.eff (.hp nid 0) [(nid,.iter b es.length [])]):=by
 simp only[kH,hu,jl,j,List.length_map]
theorem Df{P:Program}{H:List Blk}{ε:Type}{es:List ε}{mk:ε->Value×AV}{e:ε}{j m i:Nat}{sn:List Nat}(p:H[j]?=some (.iter m es.length (sn++[i])))(hm:H[m]?=some (.map (es.map mk)))(he:es[i]?=some e):
  gr H (.hp j 0)=some (.pure (.tup [IH (mk e).1,(mk e).2])):=by
 have q:decide ((es.map mk).length=es.length)=true:=by simp
 have z:(sn++[i]).getLast?=some i:=by simp
 have C:(es.map mk)[i]?=some (mk e):=by simp[he]
 simp only[gr,qe,p,hm,q,z,C]
end
end Go.Eng

