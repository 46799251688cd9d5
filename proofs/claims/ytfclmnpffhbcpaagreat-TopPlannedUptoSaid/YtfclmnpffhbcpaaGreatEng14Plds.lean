import Derived.Test.YtfclmnpffhbcpaaGreatEng11Plds
set_option linter.all false
namespace Go.Eng
open Go Go.RowKit
variable[Dr]
def X.Bf:X->Exit
 |.normal=>.normal
 |.exit id=>.exit id
 |.ret=>.ret
section
variable{P:Program}{out:Nat->Prop}{B:Nat->Prop}
theorem qU(z:zA P)(hm:P.follows .mixedOrders=true){call:gi}(q:lB P call){ops:Array Oper}{id:Nat}{draw:Bool}{st st':St}(h:kX P call ops.toList draw st=some st')
  {w:World} {π:List (Option PB)} {a:Act} (C:Rep out B w π st a) {Q:Exit->Act->World->Prop}
  (D:∀a' w' π',Rep out B w' π' st' a'->Ext B w w' (aY out π st.heap) (aY out π' st'.heap) π π'->Q .normal a' w'):(Code.region id ops draw).wp P Q a w:=by
 cases draw with
 |true=>exact Bm z hm q h C D
 |false=>
  have E:jj P call ops.toList ops.toList st=some st':=h;refine wp_region ?_;have:=tG z q (Q:=Q) ops.toList 0 st st' w π a (fun j=>by simp) E C D;rw[List.range_eq_range'];simpa using this
def pI(a:Act):ResultVar->Sem Value
 |.tmp t=>pure (a.tmps.getD t undef)
 |.cell x t=>do loadVar t (<-asAddr (a.tmps.getD x undef))
theorem yy{w:World}{π:List (Option PB)}{st:St}{a:Act}(j:Rep out B w π st a){r:ResultVar}{v:AV}(h:wY P st r=some v):
  ∃u,(pI a r).run P w=.ok u w/\Rv w (aY out π st.heap) π v u:=by
 cases r with
 |tmp t=>
  simp only[wY]at h;cases h;exact⟨_,rfl,nF j.slots t⟩
 |cell x t=>
  simp only[wY]at h;have q:=nF j.slots x;obtain⟨u,h1,D⟩:=wE (P:=P) j.inv q h;have hp:∃z,a.tmps.getD x undef=.pointer (some z):=by
   unfold yG at h;split at h
   ·split at h
    ·rename_i n cs E C;obtain⟨b,o,e1,_⟩:=rR j.inv q C;exact⟨_,e1⟩
    ·cases h
   ·obtain⟨z,u,e1,_⟩:=vj j.inv q h;exact⟨_,e1⟩
   ·cases h
  obtain⟨z,e1⟩:=hp;rw[e1]at h1;refine⟨u,?_,D⟩;simp only[pI,e1];simpa [Instr.loadAt,Instr.sureAddr,asAddr]using h1
theorem sC{w:World}{π:List (Option PB)}{st:St}{a:Act}(z:Rep out B w π st a):∀(rs:List ResultVar) (vs:List AV),fF P st rs=some vs->
  ∃us:List Value,(rs.mapM (pI a)).run P w=.ok us w/\RvL w (aY out π st.heap) π vs us
 |[],vs,h=>by cases h;exact⟨[],rfl,rfl⟩
 |r::rs,vs,h=>by
  simp only[fF]at h;split at h
  ·rename_i v j C q;cases h;obtain⟨u,h1,D⟩:=yy z C;obtain⟨us,E,I⟩:=sC z rs j q;refine⟨u::us,?_,u,us,rfl,D,I⟩;simp only[List.mapM_cons,Sem.run_bind,h1,Result.andThen_ok,E,Sem.run_pure]
  ·cases h
theorem AM{w:World}{mu:Nat->Prop}{π:List (Option PB)}{vs:List AV}{us:List Value}(h:RvL w mu π vs us):Rv w mu π (ki vs) (if h:us.toArray.size=1 then us.toArray[0]else .tuple us.toArray):=by
 match vs,us,h with
 |[],_,h=>cases h;exact⟨#[],rfl,rfl⟩
 |[v],_,h=>
  obtain⟨u,q,rfl,h1,rfl⟩:=h;simpa [ki]using h1
 |v1::v2::vs,_,h=>
  obtain⟨z,q,rfl,h1,C,j,rfl,D,E⟩:=h;have:¬(z::C::j).toArray.size=1:=by simp
  rw[dif_neg this];exact⟨_,rfl,z,_,rfl,h1,C,_,rfl,D,E⟩
theorem qn{w:World}{π:List (Option PB)}{st:St}{a:Act}(j:Rep out B w π st a){fn:Func}{vs:List AV}(h:fF P st fn.results.toList=some vs):
  ∃u,(results fn a.tmps).run P w=.ok u w/\Rv w (aY out π st.heap) π (ki vs) u:=by
 obtain⟨us,h1,q⟩:=sC j _ _ h;refine⟨_,?_,AM q⟩;have key:∀F:ResultVar->Sem Value,(∀r,F r=pI a r)->(fn.results.toList.mapM F).run P w=.ok us w:=by
  intro F z;rw[show F=pI a from funext z];exact h1
 unfold results;rw[Array.mapM_eq_mapM_toList];simp only[Sem.run_bind,Sem.run_map];rw[key _ (fun r=>by cases r<;>rfl)];rfl
end
end Go.Eng


namespace Go.Eng
open Go Go.RowKit
variable[Dr]
section
variable{w:World}{mu mu':Nat->Prop}{π π':List (Option PB)}
theorem Ext.less(h:∀b,mu' b->mu b):Ext (fun _=>False) w w mu mu' π π:=⟨fun _ _=>rfl,Nat.le_refl _,fun b _ q=>⟨rfl,fun j=>q (h b j)⟩,fun _ _ h=>h,rfl,rfl,rfl,fun _=>Nat.le_refl _⟩
def Hp(w:World)(mu mu':Nat->Prop)(π:List (Option PB))(H:List Blk)(ok:Nat->Bool):Prop:=
 ∀(b:Nat) (p:PB) (cs:List AV),ok b=true->(H[b]?=some (.own cs)\/H[b]?=some (.fix cs))->π[b]?=some (some p)->RvC w mu π cs p.blk p.off/\¬mu' p.blk
mutual
theorem yT{w':World}{q:Nat->Prop}{π2:List (Option PB)}:(A:AV)->(v:Value)->rj A=false->Rv w mu π A v->Rv w' q π2 A v
 |.unk,_,_,_=>trivial
 |.at x,v,_,h=>h
 |.agg cs,v,j,h=>by
  obtain⟨vs,rfl,z⟩:=h;exact⟨vs,rfl,pn cs _ (by simpa [rj]using j) z⟩
 |.tup cs,v,j,h=>by
  obtain⟨vs,rfl,z⟩:=h;exact⟨vs,rfl,pn cs _ (by simpa [rj]using j) z⟩
 |.fn f C cs,v,j,h=>by
  obtain⟨a,c,rfl,h1,D⟩:=h;simp only[rj,Bool.or_eq_false_iff]at j;exact⟨a,c,rfl,pn C _ j.1 h1,pn cs _ j.2 D⟩
 |.sl ..,_,j,_|.pp ..,_,j,_|.hs ..,_,j,_|.hc ..,_,j,_|.hp ..,_,j,_|.mp ..,_,j,_=>by simp[rj]at j
theorem pn{w':World}{q:Nat->Prop}{π2:List (Option PB)}:(cs:List AV)->(vs:List Value)->rv cs=false->RvL w mu π cs vs->RvL w' q π2 cs vs
 |[],vs,_,h=>h
 |c::cs,vs,z,h=>by
  obtain⟨v,j,rfl,h1,C⟩:=h;simp only[rv,Bool.or_eq_false_iff]at z;exact⟨v,j,rfl,yT c v z.1 h1,pn cs j z.2 C⟩
end
end
section
variable{P:Program}{out:Nat->Prop}{B:Nat->Prop}{w:World}{π:List (Option PB)}{H:List Blk}
theorem Inv.zr(C:Inv out B w π H){b:Nat}{cs:List AV}(h:H[b]?=some (.own cs)\/H[b]?=some (.fix cs)):
  Inv out B w π (upd H b (.fix cs))/\Ext B w w (aY out π H) (aY out π (upd H b (.fix cs))) π π:=by
 have I:b<H.length:=by rcases h with h|h<;>exact aW h
 have hu:upd H b (.fix cs)=H.set b (.fix cs):=by simp[upd,I]
 rw[hu];rcases h with h|h
 ·cases hp:π[b]? with
  |none=>have:=List.getElem?_eq_none_iff.1 hp;have:=C.len;omega
  |some op=>
   cases op with
   |some p=>
    obtain⟨h1,S⟩:=C.tX h hp rfl (.fix cs) (w':=w) rfl (fun _ _=>rfl) rfl rfl rfl (fun _=>Nat.le_refl _) (fun J=>RvC.ext J cs _ _ rfl (ku C (.inl h) hp));exact⟨S,h1⟩
   |none=>
    have D:∀x,aY out π (H.set b (.fix cs)) x->aY out π H x:=by
     rintro x (T|⟨i,y,p,g1,g2,g3,g4⟩)
     ·exact .inl T
     ·rcases dZ g1 with⟨rfl,rfl⟩|⟨_,z⟩
      ·simp[Blk.gr]at g2
      ·exact .inr ⟨i,y,p,z,g2,g3,g4⟩
    have J:Ext B w w (aY out π H) (aY out π (H.set b (.fix cs))) π π:=⟨fun _ _=>rfl,Nat.le_refl _,fun x _ U=>⟨rfl,fun N=>U (D x N)⟩,fun _ _ h=>h,rfl,rfl,rfl,fun _=>Nat.le_refl _⟩;refine⟨⟨by simp[C.len],C.bound,C.out_lt,?_,?_,?_⟩,J⟩
    ·intro i x q O g1 g2 g3;rcases dZ g1 with⟨rfl,_⟩|⟨_,z⟩
     ·rw[hp]at g2;cases g2
     ·exact C.baseO i x q O z g2 g3
    ·intro i x q g1 g2;rcases dZ g1 with⟨rfl,_⟩|⟨_,z⟩
     ·rw[hp]at g2;cases g2
     ·exact fD.ext J (fun _ _=>rfl) (C.ok i x q z g2)
    ·intro i j x y q r O E g1 g2 g3 g4 g5 g6 g7;rcases dZ g1 with⟨rfl,_⟩|⟨_,z⟩
     ·rw[hp]at g3;cases g3
     ·rcases dZ g2 with⟨rfl,_⟩|⟨_,R⟩
      ·rw[hp]at g4;cases g4
      ·exact C.sepO i j x y q r O E z R g3 g4 g5 g6 g7
 ·have he:H.set b (.fix cs)=H:=by
   apply List.ext_getElem?;intro j;rw[List.getElem?_set];split
   ·rename_i E;subst E;first|exact h.symm|(rw[if_pos I];exact h.symm)
   ·rfl
  rw[he];exact⟨C,Ext.refl _ _ _⟩
theorem RvW.frz{mu z:Nat->Prop}(j:∀c,z c->mu c):∀(rs:List RC) (C:Nat->Option (Nat×Nat×Nat)) (b o:Nat),(∀(k len es:Nat) (cs:List AV) (q:Nat×Nat×Nat),rs[k]?=some (.row len es cs)->C k=some q->¬z q.1)->RvW w mu π rs C b o->RvC w z π (rs.map frz) b o
 |[],_,_,_,_,_=>trivial
 |.row len es cs::rs,C,b,o,D,h=>by
  obtain⟨⟨v,h1,E⟩,I⟩:=h;refine⟨⟨v,h1,?_,?_⟩,RvW.frz j rs _ b (o+1) (fun k J N O q e1 e2=>D (k+1) J N O q (by simpa using e1) e2) I⟩
  ·rcases E with⟨_,_,rfl⟩|⟨q,a,cap,c,e,_,rfl,_⟩<;>rfl
  ·rcases E with⟨rfl,rfl,rfl⟩|⟨q,a,cap,c,e,g1,rfl,g3,g4,g5,g6,g7,g0,g8⟩
   ·exact .inl ⟨rfl,rfl,rfl,rfl⟩
   ·by_cases hc:0<cap
    ·obtain⟨rfl,_⟩:=g5 hc;exact .inr (.inl ⟨_,_,cap,rfl,g3,fun _=>D 0 len es cs q rfl g1,RvC.ext (Ext.less j) cs _ _ rfl g8⟩)
    ·obtain rfl:len=0:=by omega
     exact .inr (.inr ⟨rfl,g0 rfl,a,cap,rfl⟩)
 |.av A::rs,C,b,o,D,h=>by
  obtain⟨⟨v,h1,E,I⟩,R⟩:=h;exact⟨⟨v,h1,E,Rv.ext (Ext.less j) A v I⟩,RvW.frz j rs _ b (o+1) (fun k J N O q e1 e2=>D (k+1) J N O q (by simpa using e1) e2) R⟩
theorem Inv.Fh(D:Inv out B w π H){b:Nat}{rs:List RC}(h:H[b]?=some (.rows rs)):
  Inv out B w π (upd H b (.fix (rs.map frz)))/\Ext B w w (aY out π H) (aY out π (upd H b (.fix (rs.map frz)))) π π:=by
 have J:b<H.length:=aW h;have hu:upd H b (.fix (rs.map frz))=H.set b (.fix (rs.map frz)):=by simp[upd,J]
 rw[hu];have C:∀x,aY out π (H.set b (.fix (rs.map frz))) x->aY out π H x:=by
  rintro x (N|⟨i,y,p,g1,g2,g3,g4⟩)
  ·exact .inl N
  ·rcases dZ g1 with⟨rfl,rfl⟩|⟨_,z⟩
   ·simp[Blk.gr]at g2
   ·exact .inr ⟨i,y,p,z,g2,g3,g4⟩
 have O:∀(p:PB) (c:Nat),π[b]?=some (some p)->(Blk.rows rs).owns p c->¬aY out π (H.set b (.fix (rs.map frz))) c:=by
  rintro p c hp hc (N|⟨i,y,q,g1,g2,g3,g4⟩)
  ·exact(D.baseO b _ p c h hp hc).1 (D.out_lt _ N)
  ·rcases dZ g1 with⟨rfl,rfl⟩|⟨R,z⟩
   ·simp[Blk.gr]at g2
   ·exact D.sepO i b y _ q p c (fun e=>R e.symm) z h g3 hp g2 g4 hc
 have U:Ext B w w (aY out π H) (aY out π (H.set b (.fix (rs.map frz)))) π π:=⟨fun _ _=>rfl,Nat.le_refl _,fun x _ Y=>⟨rfl,fun S=>Y (C x S)⟩,fun _ _ h=>h,rfl,rfl,rfl,fun _=>Nat.le_refl _⟩;have E:∀(p:PB) (c:Nat),(Blk.fix (rs.map frz)).owns p c->(Blk.rows rs).owns p c:=fun p c h=>.inl h
 refine⟨⟨by simp[D.len],D.bound,D.out_lt,?_,?_,?_⟩,U⟩
 ·intro i x q c g1 g2 g3;rcases dZ g1 with⟨rfl,rfl⟩|⟨_,z⟩
  ·exact D.baseO b _ q c h g2 (E _ _ g3)
  ·exact D.baseO i x q c z g2 g3
 ·intro i x q g1 g2;rcases dZ g1 with⟨rfl,rfl⟩|⟨_,z⟩
  ·exact RvW.frz C rs _ _ _ (fun k len es cs s e1 e2=>O q s.1 g2 (.inr ⟨k,len,es,cs,s,e1,e2,rfl⟩)) (D.ok b _ q h g2).2.1
  ·exact fD.ext U (fun _ _=>rfl) (D.ok i x q z g2)
 ·intro i j x y q r c I g1 g2 g3 g4 g5 g6 g7;rcases dZ g1 with⟨rfl,rfl⟩|⟨_,z⟩
  ·simp[Blk.gr]at g5
  ·rcases dZ g2 with⟨rfl,rfl⟩|⟨_,T⟩
   ·exact D.sepO i b x _ q r c I z h g3 g4 g5 g6 (E _ _ g7)
   ·exact D.sepO i j x y q r c I z T g3 g4 g5 g6 g7
theorem nI:∀(l:List Nat) (H':List Blk) (q:List Blk),Inv out B w π H'->(∀b∈l,b<q.length->(H'[b]?=q[b]?\/∃x cs,q[b]?=some x/\fzC x=some cs/\H'[b]?=some (.fix cs)))->
  Inv out B w π (bj H' (fp q l))/\Ext B w w (aY out π H') (aY out π (bj H' (fp q l))) π π/\
  (bj H' (fp q l)).length=H'.length/\(∀b∈l,∀x cs,q[b]?=some x->fzC x=some cs->(bj H' (fp q l))[b]?=some (.fix cs))/\
  (∀b,(∀x cs,b∈l->q[b]?=some x->fzC x≠some cs)->(bj H' (fp q l))[b]?=H'[b]?)
 |[],H',q,O,_=>⟨O,Ext.refl _ _ _,rfl,by simp,fun _ _=>rfl⟩
 |b::l,H',q,O,N=>by
  cases E:q[b]? with
  |none=>
   have e:fp q (b::l)=fp q l:=by simp[fp,E]
   rw[e];obtain⟨h1,R,T,U,S⟩:=nI l H' q O (fun x j=>N x (by simp[j]));refine⟨h1,R,T,fun x j y cs C he=>?_,fun x j=>S x fun y cs hm=>j y cs (by simp[hm])⟩;rcases List.mem_cons.1 j with rfl|j
   ·rw[E]at C;cases C
   ·exact U x j y cs C he
  |some y=>
   cases D:fzC y with
   |none=>
    have e:fp q (b::l)=fp q l:=by
     cases y<;>first|(cases D;done)|simp[fp,E]
    rw[e];obtain⟨h1,R,T,U,S⟩:=nI l H' q O (fun x j=>N x (by simp[j]));refine⟨h1,R,T,fun x j z cs C he=>?_,fun x j=>S x fun z cs hm=>j z cs (by simp[hm])⟩;rcases List.mem_cons.1 j with rfl|j
    ·rw[E]at C;cases C;rw[D]at he;cases he
    ·exact U x j z cs C he
   |some cs=>
    have e:fp q (b::l)=(b,.fix cs)::fp q l:=by
     cases y<;>first|(cases D;done)|(simp only[fzC,Option.some.injEq]at D;subst D;simp[fp,E])
    rw[e];have a1:b<q.length:=aW E;have Y:H'[b]?=some y\/H'[b]?=some (.fix cs):=by
     rcases N b (by simp) a1 with h|⟨y',cs',h1,Z,R⟩
     ·left;rw[h];exact E
     ·rw[E]at h1;cases h1;rw[D]at Z;cases Z;exact .inr R
    have b1:b<H'.length:=by rcases Y with h|h<;>exact aW h
    obtain⟨a6,a7⟩:Inv out B w π (upd H' b (.fix cs))/\Ext B w w (aY out π H') (aY out π (upd H' b (.fix cs))) π π:=by
     rcases Y with h|h
     ·cases y with
      |own c=>simp only[fzC,Option.some.injEq]at D;subst D;exact O.zr (.inl h)
      |rows rs=>simp only[fzC,Option.some.injEq]at D;subst D;exact O.Fh h
      |_=>cases D
     ·exact O.zr (.inr h)
    have a8:(upd H' b (.fix cs)).length=H'.length:=by rw[ew (by omega),if_neg (by omega)]
    obtain⟨h1,R,T,U,S⟩:=nI l (upd H' b (.fix cs)) q a6 (fun x j I=>by
     rw[hU (by omega)];split
     ·rename_i e0;subst e0;exact .inr ⟨y,cs,E,D,rfl⟩
     ·exact N x (by simp[j]) I)
    refine⟨h1,a7.trans R,by rw[bj,T,a8],fun x j z cs' J he=>?_,fun x j=>?_⟩
    ·by_cases I:x∈l
     ·exact U x I z cs' J he
     ·rcases List.mem_cons.1 j with rfl|j
      ·rw[E]at J;cases J;rw[D]at he;cases he;rw[bj,S x (fun _ _ hm=>(I hm).elim),hU (by omega),if_pos rfl]
      ·exact(I j).elim
    ·have b0:x≠b:=by rintro rfl;exact j y cs (by simp) E D
     rw[bj,S x (fun z cs' hm=>j z cs' (by simp[hm])),hU (by omega),if_neg b0]
theorem Inv.G4{w':World}(q:Inv out B w π H)(j:∀b,b<w.heap.size->w'.heap[b]?=w.heap[b]?)(D:w.heap.size<=w'.heap.size)(I:w'.os=w.os)(J:w'.tape=w.tape)(hu:w'.output=w.output)(N:Dr.d=true->w.drawn<=w'.drawn):
  Inv out B w' π H/\Ext B w w' (aY out π H) (aY out π H) π π:=by
 have E:Ext B w w' (aY out π H) (aY out π H) π π:=⟨fun b z=>j b (q.bound b z),D,fun b z h=>⟨j b z,h⟩,fun _ _ h=>h,I,J,hu,N⟩;refine⟨⟨q.len,fun b z=>by have:=q.bound b z;omega,q.out_lt,fun i x p b h1 C O=>by have:=q.baseO i x p b h1 C O;exact⟨this.1,by omega⟩,fun i x p h1 C=>fD.ext E (fun b z=>j _ (q.baseO i x p b h1 C z).2) (q.ok i x p h1 C),q.sepO⟩,E⟩
end
end Go.Eng


namespace Go.Eng
open Go Go.RowKit
variable[Dr]
def Au(P:Program)(f:FuncId)(F:List AV->Option AV):Prop:=
 ∀args r,F args=some r->∀(out:Nat->Prop) (w:World) (vs:List Value),(∀b,out b->b<w.heap.size)->RvL w out [] args vs->
  Calls P f vs.toArray w fun e w'=>∃u,e=.returned u/\Ext (Lo w.heap.size) w w' out out [] []/\Rv w' out [] r u
section
variable{P:Program}{out:Nat->Prop}{B:Nat->Prop}{w w':World}{π πG:List (Option PB)}{H H' G:List Blk}
theorem vh:aY out [] []=out:=by
 funext b;apply propext;constructor
 ·rintro(h|⟨i,x,p,h,_⟩)
  ·exact h
  ·simp at h
 ·exact .inl
theorem CO(j:Inv out B w π H):∀b,aY out π H b->b<w.heap.size:=by
 rintro b (h|⟨i,x,p,h1,C,q,z⟩)
 ·exact j.bound _ (j.out_lt b h)
 ·exact(j.baseO i x p b h1 q z).2
theorem Ext.Ce(q:Inv out B w π H){π':List (Option PB)}{mu:Nat->Prop}(z:Ext B w w mu (aY out π H) π' π):∀b,aY out π H b->mu b:=by
 intro b j;by_cases h:mu b
 ·exact h
 ·exact((z.keep b (CO q b j) h).2 j).elim
end
end Go.Eng

