import Derived.Test.YtglimpjlhfjgdaaGreatEng11Grds
set_option linter.all false
namespace Go.Eng
open Go Go.RowKit
variable[Dr]
def X.AX:X->Exit
 |.normal=>.normal
 |.exit id=>.exit id
 |.ret=>.ret
section
variable{P:Program}{out:Nat->Prop}{B:Nat->Prop}
theorem pE(p:zl P)(hm:P.follows .mixedOrders=true){call:fG}(m:ko P call){ops:Array Oper}{id:Nat}{draw:Bool}{st st':St}(h:jY P call ops.toList draw st=some st')
  {w:World} {π:List (Option PB)} {a:Act} (q:Rep out B w π st a) {Q:Exit->Act->World->Prop}
  (z:∀a' w' π',Rep out B w' π' st' a'->Ext B w w' (aJ out π st.heap) (aJ out π' st'.heap) π π'->Q .normal a' w'):(Code.region id ops draw).wp P Q a w:=by
 cases draw with
 |true=>exact Ax p hm m h q z
 |false=>
  have C:ij P call ops.toList ops.toList st=some st':=h;refine wp_region ?_;have:=sD p m (Q:=Q) ops.toList 0 st st' w π a (fun j=>by simp) C q z;rw[List.range_eq_range'];simpa using this
def CM(a:Act):ResultVar->Sem Value
 |.tmp t=>pure (a.tmps.getD t undef)
 |.cell x t=>do loadVar t (<-asAddr (a.tmps.getD x undef))
theorem xD{w:World}{π:List (Option PB)}{st:St}{a:Act}(j:Rep out B w π st a){r:ResultVar}{v:AV}(h:wm P st r=some v):
  ∃u,(CM a r).run P w=.ok u w/\Rv w (aJ out π st.heap) π v u:=by
 cases r with
 |tmp t=>
  simp only[wm]at h;cases h;exact⟨_,rfl,kT j.slots t⟩
 |cell x t=>
  simp only[wm]at h;have m:=kT j.slots x;obtain⟨u,h1,h2⟩:=vG (P:=P) j.inv m h;have hp:∃p,a.tmps.getD x undef=.pointer (some p):=by
   unfold x7 at h;split at h
   ·split at h
    ·rename_i n cs z q;obtain⟨b,o,e1,_⟩:=qL j.inv m q;exact⟨_,e1⟩
    ·cases h
   ·obtain⟨p,u,e1,_⟩:=tA j.inv m h;exact⟨_,e1⟩
   ·cases h
  obtain⟨p,e1⟩:=hp;rw[e1]at h1;refine⟨u,?_,h2⟩;simp only[CM,e1];simpa [Instr.loadAt,Instr.sureAddr,asAddr]using h1
theorem re{w:World}{π:List (Option PB)}{st:St}{a:Act}(p:Rep out B w π st a):∀(rs:List ResultVar) (vs:List AV),fc P st rs=some vs->
  ∃us:List Value,(rs.mapM (CM a)).run P w=.ok us w/\RvL w (aJ out π st.heap) π vs us
 |[],vs,h=>by cases h;exact⟨[],rfl,rfl⟩
 |r::rs,vs,h=>by
  simp only[fc]at h;split at h
  ·rename_i v j q m;cases h;obtain⟨u,h1,h2⟩:=xD p q;obtain⟨us,z,C⟩:=re p rs j m;refine⟨u::us,?_,u,us,rfl,h2,C⟩;simp only[List.mapM_cons,Sem.run_bind,h1,Result.andThen_ok,z,Sem.run_pure]
  ·cases h
theorem zM{w:World}{mu:Nat->Prop}{π:List (Option PB)}{vs:List AV}{us:List Value}(h:RvL w mu π vs us):Rv w mu π (lj vs) (if h:us.toArray.size=1 then us.toArray[0]else .tuple us.toArray):=by
 match vs,us,h with
 |[],_,h=>cases h;exact⟨#[],rfl,rfl⟩
 |[v],_,h=>
  obtain⟨u,m,rfl,h1,rfl⟩:=h;simpa [lj]using h1
 |v1::v2::vs,_,h=>
  obtain⟨u1,m,rfl,h1,u2,j,rfl,h2,p⟩:=h;have:¬(u1::u2::j).toArray.size=1:=by simp
  rw[dif_neg this];exact⟨_,rfl,u1,_,rfl,h1,u2,_,rfl,h2,p⟩
theorem oR{w:World}{π:List (Option PB)}{st:St}{a:Act}(j:Rep out B w π st a){fn:Func}{vs:List AV}(h:fc P st fn.results.toList=some vs):
  ∃u,(results fn a.tmps).run P w=.ok u w/\Rv w (aJ out π st.heap) π (lj vs) u:=by
 obtain⟨us,h1,h2⟩:=re j _ _ h;refine⟨_,?_,zM h2⟩;have key:∀F:ResultVar->Sem Value,(∀r,F r=CM a r)->(fn.results.toList.mapM F).run P w=.ok us w:=by
  intro F m;rw[show F=CM a from funext m];exact h1
 unfold results;rw[Array.mapM_eq_mapM_toList];simp only[Sem.run_bind,Sem.run_map];rw[key _ (fun r=>by cases r<;>rfl)];rfl
end
end Go.Eng


namespace Go.Eng
open Go Go.RowKit
variable[Dr]
section
variable{w:World}{mu mu':Nat->Prop}{π π':List (Option PB)}
theorem Ext.less(h:∀b,mu' b->mu b):Ext (fun _=>False) w w mu mu' π π:=⟨fun _ _=>rfl,Nat.le_refl _,fun b _ m=>⟨rfl,fun j=>m (h b j)⟩,fun _ _ h=>h,rfl,rfl,rfl,fun _=>Nat.le_refl _⟩
def HO(w:World)(mu mu':Nat->Prop)(π:List (Option PB))(H:List Blk)(ok:Nat->Bool):Prop:=
 ∀(b:Nat) (p:PB) (cs:List AV),ok b=true->(H[b]?=some (.own cs)\/H[b]?=some (.fix cs))->π[b]?=some (some p)->RvC w mu π cs p.blk p.off/\¬mu' p.blk
mutual
theorem x5{w':World}{m:Nat->Prop}{π2:List (Option PB)}:(A:AV)->(v:Value)->qo A=false->Rv w mu π A v->Rv w' m π2 A v
 |.unk,_,_,_=>trivial
 |.at x,v,_,h=>h
 |.agg cs,v,j,h=>by
  obtain⟨vs,rfl,p⟩:=h;exact⟨vs,rfl,nQ cs _ (by simpa [qo]using j) p⟩
 |.tup cs,v,j,h=>by
  obtain⟨vs,rfl,p⟩:=h;exact⟨vs,rfl,nQ cs _ (by simpa [qo]using j) p⟩
 |.fn f q cs,v,j,h=>by
  obtain⟨a,c,rfl,h1,h2⟩:=h;simp only[qo,Bool.or_eq_false_iff]at j;exact⟨a,c,rfl,nQ q _ j.1 h1,nQ cs _ j.2 h2⟩
 |.sl ..,_,j,_|.pp ..,_,j,_|.hs ..,_,j,_|.hc ..,_,j,_|.hp ..,_,j,_|.mp ..,_,j,_=>by simp[qo]at j
theorem nQ{w':World}{m:Nat->Prop}{π2:List (Option PB)}:(cs:List AV)->(vs:List Value)->qj cs=false->RvL w mu π cs vs->RvL w' m π2 cs vs
 |[],vs,_,h=>h
 |c::cs,vs,p,h=>by
  obtain⟨v,j,rfl,h1,h2⟩:=h;simp only[qj,Bool.or_eq_false_iff]at p;exact⟨v,j,rfl,x5 c v p.1 h1,nQ cs j p.2 h2⟩
end
end
section
variable{P:Program}{out:Nat->Prop}{B:Nat->Prop}{w:World}{π:List (Option PB)}{H:List Blk}
theorem Inv.yz(z:Inv out B w π H){b:Nat}{cs:List AV}(h:H[b]?=some (.own cs)\/H[b]?=some (.fix cs)):
  Inv out B w π (upd H b (.fix cs))/\Ext B w w (aJ out π H) (aJ out π (upd H b (.fix cs))) π π:=by
 have E:b<H.length:=by rcases h with h|h<;>exact aH h
 have hu:upd H b (.fix cs)=H.set b (.fix cs):=by simp[upd,E]
 rw[hu];rcases h with h|h
 ·cases hp:π[b]? with
  |none=>have:=List.getElem?_eq_none_iff.1 hp;have:=z.len;omega
  |some op=>
   cases op with
   |some p=>
    obtain⟨h1,h2⟩:=z.tu h hp rfl (.fix cs) (w':=w) rfl (fun _ _=>rfl) rfl rfl rfl (fun _=>Nat.le_refl _) (fun I=>RvC.ext I cs _ _ rfl (jz z (.inl h) hp));exact⟨h2,h1⟩
   |none=>
    have C:∀x,aJ out π (H.set b (.fix cs)) x->aJ out π H x:=by
     rintro x (O|⟨i,y,p,g1,g2,g3,g4⟩)
     ·exact .inl O
     ·rcases cU g1 with⟨rfl,rfl⟩|⟨_,m⟩
      ·simp[Blk.gI]at g2
      ·exact .inr ⟨i,y,p,m,g2,g3,g4⟩
    have I:Ext B w w (aJ out π H) (aJ out π (H.set b (.fix cs))) π π:=⟨fun _ _=>rfl,Nat.le_refl _,fun x _ S=>⟨rfl,fun J=>S (C x J)⟩,fun _ _ h=>h,rfl,rfl,rfl,fun _=>Nat.le_refl _⟩;refine⟨⟨by simp[z.len],z.bound,z.out_lt,?_,?_,?_⟩,I⟩
    ·intro i x q M g1 g2 g3;rcases cU g1 with⟨rfl,_⟩|⟨_,m⟩
     ·rw[hp]at g2;cases g2
     ·exact z.baseO i x q M m g2 g3
    ·intro i x q g1 g2;rcases cU g1 with⟨rfl,_⟩|⟨_,m⟩
     ·rw[hp]at g2;cases g2
     ·exact eP.ext I (fun _ _=>rfl) (z.ok i x q m g2)
    ·intro i j x y q r M D g1 g2 g3 g4 g5 g6 g7;rcases cU g1 with⟨rfl,_⟩|⟨_,m⟩
     ·rw[hp]at g3;cases g3
     ·rcases cU g2 with⟨rfl,_⟩|⟨_,N⟩
      ·rw[hp]at g4;cases g4
      ·exact z.sepO i j x y q r M D m N g3 g4 g5 g6 g7
 ·have he:H.set b (.fix cs)=H:=by
   apply List.ext_getElem?;intro j;rw[List.getElem?_set];split
   ·rename_i D;subst D;first|exact h.symm|(rw[if_pos E];exact h.symm)
   ·rfl
  rw[he];exact⟨z,Ext.refl _ _ _⟩
theorem RvW.frz{mu m:Nat->Prop}(j:∀c,m c->mu c):∀(rs:List RC) (p:Nat->Option (Nat×Nat×Nat)) (b o:Nat),(∀(k len es:Nat) (cs:List AV) (q:Nat×Nat×Nat),rs[k]?=some (.row len es cs)->p k=some q->¬m q.1)->RvW w mu π rs p b o->RvC w m π (rs.map frz) b o
 |[],_,_,_,_,_=>trivial
 |.row len es cs::rs,p,b,o,z,h=>by
  obtain⟨⟨v,h1,h2⟩,C⟩:=h;refine⟨⟨v,h1,?_,?_⟩,RvW.frz j rs _ b (o+1) (fun k D E I q e1 e2=>z (k+1) D E I q (by simpa using e1) e2) C⟩
  ·rcases h2 with⟨_,_,rfl⟩|⟨q,a,cap,c,e,_,rfl,_⟩<;>rfl
  ·rcases h2 with⟨rfl,rfl,rfl⟩|⟨q,a,cap,c,e,g1,rfl,g3,g4,g5,g6,g7,g0,g8⟩
   ·exact .inl ⟨rfl,rfl,rfl,rfl⟩
   ·by_cases hc:0<cap
    ·obtain⟨rfl,_⟩:=g5 hc;exact .inr (.inl ⟨_,_,cap,rfl,g3,fun _=>z 0 len es cs q rfl g1,RvC.ext (Ext.less j) cs _ _ rfl g8⟩)
    ·obtain rfl:len=0:=by omega
     exact .inr (.inr ⟨rfl,g0 rfl,a,cap,rfl⟩)
 |.av A::rs,p,b,o,z,h=>by
  obtain⟨⟨v,h1,h2,C⟩,J⟩:=h;exact⟨⟨v,h1,h2,Rv.ext (Ext.less j) A v C⟩,RvW.frz j rs _ b (o+1) (fun k D E I q e1 e2=>z (k+1) D E I q (by simpa using e1) e2) J⟩
theorem Inv.Bk(C:Inv out B w π H){b:Nat}{rs:List RC}(h:H[b]?=some (.rows rs)):
  Inv out B w π (upd H b (.fix (rs.map frz)))/\Ext B w w (aJ out π H) (aJ out π (upd H b (.fix (rs.map frz)))) π π:=by
 have I:b<H.length:=aH h;have hu:upd H b (.fix (rs.map frz))=H.set b (.fix (rs.map frz)):=by simp[upd,I]
 rw[hu];have z:∀x,aJ out π (H.set b (.fix (rs.map frz))) x->aJ out π H x:=by
  rintro x (J|⟨i,y,p,g1,g2,g3,g4⟩)
  ·exact .inl J
  ·rcases cU g1 with⟨rfl,rfl⟩|⟨_,m⟩
   ·simp[Blk.gI]at g2
   ·exact .inr ⟨i,y,p,m,g2,g3,g4⟩
 have M:∀(p:PB) (c:Nat),π[b]?=some (some p)->(Blk.rows rs).owns p c->¬aJ out π (H.set b (.fix (rs.map frz))) c:=by
  rintro p c hp hc (J|⟨i,y,q,g1,g2,g3,g4⟩)
  ·exact(C.baseO b _ p c h hp hc).1 (C.out_lt _ J)
  ·rcases cU g1 with⟨rfl,rfl⟩|⟨N,m⟩
   ·simp[Blk.gI]at g2
   ·exact C.sepO i b y _ q p c (fun e=>N e.symm) m h g3 hp g2 g4 hc
 have T:Ext B w w (aJ out π H) (aJ out π (H.set b (.fix (rs.map frz)))) π π:=⟨fun _ _=>rfl,Nat.le_refl _,fun x _ U=>⟨rfl,fun O=>U (z x O)⟩,fun _ _ h=>h,rfl,rfl,rfl,fun _=>Nat.le_refl _⟩;have D:∀(p:PB) (c:Nat),(Blk.fix (rs.map frz)).owns p c->(Blk.rows rs).owns p c:=fun p c h=>.inl h
 refine⟨⟨by simp[C.len],C.bound,C.out_lt,?_,?_,?_⟩,T⟩
 ·intro i x q c g1 g2 g3;rcases cU g1 with⟨rfl,rfl⟩|⟨_,m⟩
  ·exact C.baseO b _ q c h g2 (D _ _ g3)
  ·exact C.baseO i x q c m g2 g3
 ·intro i x q g1 g2;rcases cU g1 with⟨rfl,rfl⟩|⟨_,m⟩
  ·exact RvW.frz z rs _ _ _ (fun k len es cs s e1 e2=>M q s.1 g2 (.inr ⟨k,len,es,cs,s,e1,e2,rfl⟩)) (C.ok b _ q h g2).2.1
  ·exact eP.ext T (fun _ _=>rfl) (C.ok i x q m g2)
 ·intro i j x y q r c E g1 g2 g3 g4 g5 g6 g7;rcases cU g1 with⟨rfl,rfl⟩|⟨_,m⟩
  ·simp[Blk.gI]at g5
  ·rcases cU g2 with⟨rfl,rfl⟩|⟨_,S⟩
   ·exact C.sepO i b x _ q r c E m h g3 g4 g5 g6 (D _ _ g7)
   ·exact C.sepO i j x y q r c E m S g3 g4 g5 g6 g7
theorem mG:∀(l:List Nat) (H':List Blk) (m:List Blk),Inv out B w π H'->(∀b∈l,b<m.length->(H'[b]?=m[b]?\/∃x cs,m[b]?=some x/\fzC x=some cs/\H'[b]?=some (.fix cs)))->
  Inv out B w π (aN H' (eh m l))/\Ext B w w (aJ out π H') (aJ out π (aN H' (eh m l))) π π/\
  (aN H' (eh m l)).length=H'.length/\(∀b∈l,∀x cs,m[b]?=some x->fzC x=some cs->(aN H' (eh m l))[b]?=some (.fix cs))/\
  (∀b,(∀x cs,b∈l->m[b]?=some x->fzC x≠some cs)->(aN H' (eh m l))[b]?=H'[b]?)
 |[],H',m,M,_=>⟨M,Ext.refl _ _ _,rfl,by simp,fun _ _=>rfl⟩
 |b::l,H',m,M,I=>by
  cases C:m[b]? with
  |none=>
   have e:eh m (b::l)=eh m l:=by simp[eh,C]
   rw[e];obtain⟨h1,h2,O,S,N⟩:=mG l H' m M (fun x j=>I x (by simp[j]));refine⟨h1,h2,O,fun x j y cs p he=>?_,fun x j=>N x fun y cs hm=>j y cs (by simp[hm])⟩;rcases List.mem_cons.1 j with rfl|j
   ·rw[C]at p;cases p
   ·exact S x j y cs p he
  |some y=>
   cases q:fzC y with
   |none=>
    have e:eh m (b::l)=eh m l:=by
     cases y<;>first|(cases q;done)|simp[eh,C]
    rw[e];obtain⟨h1,h2,O,S,N⟩:=mG l H' m M (fun x j=>I x (by simp[j]));refine⟨h1,h2,O,fun x j z cs p he=>?_,fun x j=>N x fun z cs hm=>j z cs (by simp[hm])⟩;rcases List.mem_cons.1 j with rfl|j
    ·rw[C]at p;cases p;rw[q]at he;cases he
    ·exact S x j z cs p he
   |some cs=>
    have e:eh m (b::l)=(b,.fix cs)::eh m l:=by
     cases y<;>first|(cases q;done)|(simp only[fzC,Option.some.injEq]at q;subst q;simp[eh,C])
    rw[e];have Y:b<m.length:=aH C;have T:H'[b]?=some y\/H'[b]?=some (.fix cs):=by
     rcases I b (by simp) Y with h|⟨y',J,h1,U,h2⟩
     ·left;rw[h];exact C
     ·rw[C]at h1;cases h1;rw[q]at U;cases U;exact .inr h2
    have a8:b<H'.length:=by rcases T with h|h<;>exact aH h
    obtain⟨Z,a1⟩:Inv out B w π (upd H' b (.fix cs))/\Ext B w w (aJ out π H') (aJ out π (upd H' b (.fix cs))) π π:=by
     rcases T with h|h
     ·cases y with
      |own c=>simp only[fzC,Option.some.injEq]at q;subst q;exact M.yz (.inl h)
      |rows rs=>simp only[fzC,Option.some.injEq]at q;subst q;exact M.Bk h
      |_=>cases q
     ·exact M.yz (.inr h)
    have a6:(upd H' b (.fix cs)).length=H'.length:=by rw[dr (by omega),if_neg (by omega)]
    obtain⟨h1,h2,O,S,N⟩:=mG l (upd H' b (.fix cs)) m Z (fun x j D=>by
     rw[gl (by omega)];split
     ·rename_i e0;subst e0;exact .inr ⟨y,cs,C,q,rfl⟩
     ·exact I x (by simp[j]) D)
    refine⟨h1,a1.trans h2,by rw[aN,O,a6],fun x j z J E he=>?_,fun x j=>?_⟩
    ·by_cases D:x∈l
     ·exact S x D z J E he
     ·rcases List.mem_cons.1 j with rfl|j
      ·rw[C]at E;cases E;rw[q]at he;cases he;rw[aN,N x (fun _ _ hm=>(D hm).elim),gl (by omega),if_pos rfl]
      ·exact(D j).elim
    ·have a7:x≠b:=by rintro rfl;exact j y cs (by simp) C q
     rw[aN,N x (fun z J hm=>j z J (by simp[hm])),gl (by omega),if_neg a7]
theorem Inv.G0{w':World}(m:Inv out B w π H)(j:∀b,b<w.heap.size->w'.heap[b]?=w.heap[b]?)(z:w.heap.size<=w'.heap.size)(D:w'.os=w.os)(E:w'.tape=w.tape)(hu:w'.output=w.output)(I:Dr.d=true->w.drawn<=w'.drawn):
  Inv out B w' π H/\Ext B w w' (aJ out π H) (aJ out π H) π π:=by
 have C:Ext B w w' (aJ out π H) (aJ out π H) π π:=⟨fun b q=>j b (m.bound b q),z,fun b q h=>⟨j b q,h⟩,fun _ _ h=>h,D,E,hu,I⟩;refine⟨⟨m.len,fun b q=>by have:=m.bound b q;omega,m.out_lt,fun i x p b h1 h2 J=>by have:=m.baseO i x p b h1 h2 J;exact⟨this.1,by omega⟩,fun i x p h1 h2=>eP.ext C (fun b q=>j _ (m.baseO i x p b h1 h2 q).2) (m.ok i x p h1 h2),m.sepO⟩,C⟩
end
end Go.Eng


namespace Go.Eng
open Go Go.RowKit
variable[Dr]
def Ab(P:Program)(f:FuncId)(F:List AV->Option AV):Prop:=
 ∀args r,F args=some r->∀(out:Nat->Prop) (w:World) (vs:List Value),(∀b,out b->b<w.heap.size)->RvL w out [] args vs->
  Calls P f vs.toArray w fun e w'=>∃u,e=.returned u/\Ext (Lo w.heap.size) w w' out out [] []/\Rv w' out [] r u
section
variable{P:Program}{out:Nat->Prop}{B:Nat->Prop}{w w':World}{π πG:List (Option PB)}{H H' G:List Blk}
theorem ud:aJ out [] []=out:=by
 funext b;apply propext;constructor
 ·rintro(h|⟨i,x,p,h,_⟩)
  ·exact h
  ·simp at h
 ·exact .inl
theorem BS(j:Inv out B w π H):∀b,aJ out π H b->b<w.heap.size:=by
 rintro b (h|⟨i,x,p,h1,h2,m,q⟩)
 ·exact j.bound _ (j.out_lt b h)
 ·exact(j.baseO i x p b h1 m q).2
theorem Ext.yx(m:Inv out B w π H){π':List (Option PB)}{mu:Nat->Prop}(p:Ext B w w mu (aJ out π H) π' π):∀b,aJ out π H b->mu b:=by
 intro b j;by_cases h:mu b
 ·exact h
 ·exact((p.keep b (BS m b j) h).2 j).elim
end
end Go.Eng

