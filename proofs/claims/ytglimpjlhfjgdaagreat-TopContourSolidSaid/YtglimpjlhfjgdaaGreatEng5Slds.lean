import Derived.Test.YtglimpjlhfjgdaaGreatEng3Slds
import Derived.Laws.Cover3
import Derived.Laws.Pointers
import Derived.MapKept
set_option linter.all false
namespace Go.Eng
open Go Go.RowKit
variable[Dr]
def bX(P:Program)(out:Nat->Prop)(B:Nat->Prop)(w:World)(π:List (Option PB))(H:List Blk)(s:Sem Next):bj->Prop
 |.pure A=>∃m v,s.run P w=.ok m w/\(m=.value v\/m=.skip/\v=undef)/\Rv w (aI out π H) π A v
 |.eff A ws=>∃m v w' π',s.run P w=.ok m w'/\(m=.value v\/m=.skip/\v=undef)/\Ext B w w' (aI out π H) (aI out π' (aN H ws)) π π'/\Inv out B w' π' (aN H ws)/\Rv w' (aI out π' (aN H ws)) π' A v/\∀j,(∀b,(j,b)∉ws)->π'[j]?=π[j]?
 |.call f args=>∃vs,s.run P w=.ok (.enter f vs) w/\RvL w (aI out π H) π args vs.toList
section
variable{P:Program}{out:Nat->Prop}{B:Nat->Prop}{w:World}{π:List (Option PB)}{H:List Blk}
theorem bX.value{s:Sem Value}{A:AV}{v:Value}(h:s.run P w=.ok v w)(j:Rv w (aI out π H) π A v):bX P out B w π H (do pure (.value (<-s))) (.pure A):=
 ⟨.value v,v,by simp[h],.inl rfl,j⟩
theorem iz{s:Sem Next}{o:Option AV}{r:bj}(h:bj.ofP o=some r)(hs:∀A,o=some A->bX P out B w π H s (.pure A)):bX P out B w π H s r:=by
 cases o with
 |none=>cases h
 |some A=>cases h;exact hs A rfl
theorem xz{A:AV}{v:Value}{f:Value->Option Value}{s:Sem Value}{r:bj}(j:Rv w (aI out π H) π A v)(m:∀x y,v=x->f x=some y->s.run P w=.ok y w)(h:EM f A=some r):
  bX P out B w π H (do pure (.value (<-s))) r:=by
 unfold EM at h;split at h
 ·rename_i x p;split at h
  ·rename_i y q;cases h;exact bX.value (m x y (iD A v x j p) q) rfl
  ·cases h
 ·cases h
theorem BQ{t:Bool}{A j:AV}{a b:Value}(m:Rv w (aI out π H) π A a)(p:Rv w (aI out π H) π j b):Rv w (aI out π H) π (FB t A j) (if t then a else b):=by
 unfold FB;split
 ·cases m;cases p;cases t<;>rfl
 ·cases t
  ·exact p
  ·exact m
theorem iV{mu:Nat->Prop}{A:AV}{v:Value}{n:Int}(h:Rv w mu π A v)(hi:BC A=some n):∃k,v=.int k n:=by
 unfold BC at hi;split at hi
 ·cases hi;exact⟨_,h⟩
 ·cases hi
theorem qu{mu:Nat->Prop}{A:AV}{v:Value}{k:IntKind}{n:Int}(h:Rv w mu π A v)(hi:AN A=some (k,n)):v=.int k n:=by
 unfold AN at hi;split at hi
 ·cases hi;exact h
 ·cases hi
theorem vD{mu:Nat->Prop}{A j:AV}{v:Value}{n:Nat}(h:Rv w mu π A v)(hp:CY n A=some j):∃m:Addr,v=.pointer (some m)/\Rv w mu π j (.pointer (some (m.add n))):=by
 unfold CY at hp;split at hp
 ·cases hp;obtain⟨p,h1,rfl⟩:=h;exact⟨_,rfl,p,h1,by rw[dW,Nat.add_assoc]⟩
 ·cases hp;obtain⟨b,o,rfl,h2,q⟩:=h;exact⟨_,rfl,b,o,by rw[dW,Nat.add_assoc],h2,q⟩
 ·cases hp
theorem iP{mu:Nat->Prop}{t:TypeId}{cs:List AV}{vs:Array Value}{off:Nat}{A:AV}(h:RvL w mu π cs vs.toList)(hp:pG P t cs off=some A):
  ∃v,(part t vs off).run P w=.ok v w/\Rv w mu π A v:=by
 unfold pG at hp;split at hp
 ·rename_i j;split at hp
  ·rename_i n m;cases hp;refine⟨.agg (vs.extract off (off+n)),by simp[part,vU j,bt m],_,rfl,?_⟩;have:=RvL.take n _ _ (RvL.drop off _ _ h);rw[Array.toList_extract,List.extract_eq_take_drop];rwa[show off+n-off=n by omega]
  ·cases hp
 ·rename_i j;obtain⟨v,h1,h2⟩:=RvL.get _ _ _ _ h hp;exact⟨v,by simp[part,vU j,<-Array.getElem?_toList,h1],h2⟩
 ·cases hp
theorem zH{s:TypeId}{x:AV}{v:Value}{f:Nat}{A:AV}{mu:Nat->Prop}(p:Rv w mu π x v)(h:BD P s x f=some A):∃u,(Instr.field s v f).run P w=.ok u w/\Rv w mu π A u:=by
 unfold BD at h;split at h
 ·rename_i q cs hu;split at h
  ·rename_i fd j;obtain⟨vs,rfl,m⟩:=p;obtain⟨u,h1,h2⟩:=iP m h;exact⟨u,by simp[Instr.field,run_underlying hu,j,asAgg,h1],h2⟩
  ·cases h
 ·rename_i q a hu;split at h
  ·rename_i fd j;cases p;obtain⟨u,h1,h2⟩:=iP (ff a.toList) h;exact⟨u,by simp[Instr.field,run_underlying hu,j,asAgg,h1],h2⟩
  ·cases h
 ·cases h
theorem zg{t:TypeId}{x q:AV}{v p:Value}{A:AV}{mu:Nat->Prop}(z:Rv w mu π x v)(hi:Rv w mu π q p)(h:B5 P t x q=some A):∃u,(Instr.index t v p).run P w=.ok u w/\Rv w mu π A u:=by
 unfold B5 at h;split at h
 ·rename_i len e cs i hu he;split at h
  ·rename_i n C m;simp only[Bool.and_eq_true,decide_eq_true_eq]at m;obtain⟨vs,rfl,D⟩:=z;obtain⟨k,rfl⟩:=iV hi he;obtain⟨u,h1,h2⟩:=iP D h;exact⟨u,by simp[Instr.index,asIntOf,run_underlying hu,m,bt C,h1],h2⟩
  ·cases h
 ·rename_i len e a i hu he;split at h
  ·rename_i n C m;simp only[Bool.and_eq_true,decide_eq_true_eq]at m;cases z;obtain⟨k,rfl⟩:=iV hi he;obtain⟨u,h1,h2⟩:=iP (ff a.toList) h;exact⟨u,by simp[Instr.index,asIntOf,run_underlying hu,m,bt C,h1],h2⟩
  ·cases h
 ·rename_i s i hu he;have E:v=s:=z;subst E;split at h
  ·rename_i j I;have:=iD q p j hi I;subst this;cases hp:gJ P (Instr.index t v p)with
   |none=>simp[hp]at h
   |some u=>simp[hp]at h;subst h;exact⟨u,fD hp w,rfl⟩
  ·cases h
 ·cases h
theorem uu{s:TypeId}{x:AV}{v:Value}{f:Nat}{A:AV}{mu:Nat->Prop}(q:Rv w mu π x v)(h:sy P s x f=some A):∃u,(Instr.fieldAt s v f).run P w=.ok u w/\Rv w mu π A u:=by
 unfold sy at h;split at h
 ·rename_i C hu;split at h
  ·rename_i fd j;split at h
   ·cases h
   ·rename_i n m z;obtain⟨D,rfl,h2⟩:=vD q h;refine⟨_,?_,h2⟩;have p:¬n=0:=fun e=>m e
    simp[Instr.fieldAt,run_underlying hu,j,Instr.sureAddr,fieldPlace,bt z,p]
   ·cases h
  ·cases h
 ·cases h
theorem uJ{t:TypeId}{x D:AV}{v E:Value}{A:AV}{mu:Nat->Prop}(q:Rv w mu π x v)(hi:Rv w mu π D E)(h:sE P t x D=some A):∃u,(Instr.indexAt t v E).run P w=.ok u w/\Rv w mu π A u:=by
 unfold sE at h;split at h
 ·rename_i e i hu he;obtain⟨k,rfl⟩:=iV hi he;split at h
  ·rename_i n nl cs len m;split at h
   ·rename_i j;simp only[Bool.and_eq_true,decide_eq_true_eq]at j;cases h;rcases q with⟨_,I,_,_⟩|⟨b,o,cap,rfl,_,z,J⟩|⟨I,_⟩
    rotate_left 2
    ·omega
    ·omega
    ·exact⟨_,by simp[Instr.indexAt,asIntOf,run_underlying hu,j,bt m];rfl,b,o,by rw[dW],z,J⟩
   ·cases h
  ·rename_i n b off len es m;split at h
   ·rename_i j;simp only[Bool.and_eq_true,decide_eq_true_eq]at j;cases h;rcases q with⟨I,_⟩|⟨p,a,cap,h1,rfl,h2,M,z⟩
    ·omega
    have C:=(z (by omega)).1;exact⟨_,by simp[Instr.indexAt,asIntOf,run_underlying hu,j,bt m];rfl,p,h1,by rw[C,dW,Nat.add_assoc]⟩
   ·cases h
  ·cases h
 ·rename_i len e i hu he;obtain⟨k,rfl⟩:=iV hi he;split at h
  ·rename_i n m;split at h
   ·rename_i j;simp only[Bool.and_eq_true,decide_eq_true_eq]at j;obtain⟨N,rfl,h2⟩:=vD q h;exact⟨_,by simp[Instr.indexAt,asIntOf,run_underlying hu,Instr.sureAddr,j,bt m],h2⟩
   ·cases h
  ·cases h
 ·cases h
theorem cX{mu:Nat->Prop}{isS:Bool}{len cap:Nat}{D hi:Option AV}{p j:Option Value}{l h:Nat}(hle:len<=cap)
  (q:match D,p with|none,none=>True|some A,some v=>Rv w mu π A v|_,_=>False) (m:match hi,j with|none,none=>True|some A,some v=>Rv w mu π A v|_,_=>False)
  (z:oO len D hi=some (l,h)):(Instr.sliceBounds isS len cap p j none).run P w=.ok (l,h,cap) w/\l<=h/\h<=len:=by
 unfold oO at z;split at z
 ·rename_i N C e1 e2;split at z
  ·rename_i E;simp only[Bool.and_eq_true,decide_eq_true_eq]at E;cases z;obtain⟨⟨d1,d2⟩,d3⟩:=E;refine⟨?_,by omega,by omega⟩;cases D with
   |none=>
    cases p with
    |some _=>exact q.elim
    |none=>
     cases e1;cases hi with
     |none=>
      cases j with
      |some _=>exact m.elim
      |none=>cases e2;simp[Instr.sliceBounds]
     |some A=>
      cases j with
      |none=>exact m.elim
      |some v=>
       obtain⟨k,rfl⟩:=iV m e2;have:C<=(cap:Int):=by omega
       simp[Instr.sliceBounds,Instr.sliceBound,asIntOf,this,d2]
   |some A=>
    cases p with
    |none=>exact q.elim
    |some v=>
     obtain⟨k,rfl⟩:=iV q e1;cases hi with
     |none=>
      cases j with
      |some _=>exact m.elim
      |none=>cases e2;simp[Instr.sliceBounds,Instr.sliceBound,asIntOf,d1,d2]
     |some A=>
      cases j with
      |none=>exact m.elim
      |some v=>
       obtain⟨k,rfl⟩:=iV m e2;have J:C<=(cap:Int):=by omega
       have I:0<=C:=by omega
       have M:(C.toNat:Int)=C:=Int.toNat_of_nonneg I;simp only[Instr.sliceBounds,Instr.sliceBound,asIntOf,Sem.run_bind,Sem.run_pure,Result.andThen_ok,Sem.run_ite,I,J,and_self,if_true,d1,M,d2]
  ·cases z
 ·cases z
end
section
variable{P:Program}{out:Nat->Prop}{B:Nat->Prop}{w:World}{π:List (Option PB)}{H:List Blk}
def Jq(w:World)(mu:Nat->Prop)(π:List (Option PB))(m:Option AV)(j:Option Value):Prop:=
 match m,j with|none,none=>True|some A,some v=>Rv w mu π A v|_,_=>False
theorem zQ(hI:Inv out B w π H){t:TypeId}{x:AV}{v:Value}{lo hi:Option AV}{J M:Option Value}{A:AV}(N:Rv w (aI out π H) π x v)
  (q:Jq w (aI out π H) π lo J) (z:Jq w (aI out π H) π hi M) (h:ug P H t x lo hi=some A):∃u,(Instr.sliceAt t v J M none).run P w=.ok u w/\Rv w (aI out π H) π A u:=by
 unfold ug at h;split at h
 ·rename_i e hu;split at h
  ·rename_i n nl cs len C;split at h
   ·rename_i l m D;cases h;rcases N with⟨rfl,rfl,rfl,rfl⟩|⟨b,o,cap,rfl,hle,O,U⟩|⟨rfl,rfl,a,cap,rfl⟩
    ·obtain⟨r,r1,r2⟩:=cX (P:=P) (w:=w) (isS:=true) (Nat.le_refl 0) q z D;have e1:m=0:=by omega
     have e2:l=0:=by omega
     subst e1;subst e2;exact⟨.slice none 0 0,by simp[Instr.sliceAt,Instr.slice,run_underlying hu,r,bt C],.inl ⟨rfl,rfl,by simp,rfl⟩⟩
    ·obtain⟨r,r1,r2⟩:=cX (P:=P) (w:=w) (isS:=true) hle q z D;by_cases hc:cap=l
     ·have e1:m-l=0:=by omega
      refine⟨.slice (some ⟨b,o,none⟩) (m-l) (cap-l),by simp[Instr.sliceAt,Instr.slice,run_underlying hu,r,bt C];exact fun h=>(h hc).elim,.inr (.inl ⟨b,o,cap-l,rfl,by omega,?_,?_⟩)⟩
      ·intro j;simp[e1]at j
      ·simp[e1,RvC]
     ·refine⟨.slice (some ⟨b,o+l*n,none⟩) (m-l) (cap-l),by simp[Instr.sliceAt,Instr.slice,run_underlying hu,r,bt C,hc,dW],.inr (.inl ⟨b,o+l*n,cap-l,rfl,by omega,?_,?_⟩)⟩
      ·intro j;exact O (by intro e0;subst e0;simp at j)
      ·exact RvC.take _ _ _ _ (RvC.drop _ _ _ _ U)
    ·obtain⟨r,r1,r2⟩:=cX (P:=P) (w:=w) (isS:=true) (Nat.zero_le cap) q z D;have e1:m=0:=by omega
     have e2:l=0:=by omega
     subst e1;subst e2;by_cases hc:cap=0
     ·exact⟨.slice (some a) 0 0,by subst hc;simp[Instr.sliceAt,Instr.slice,run_underlying hu,r,bt C],.inr (.inr ⟨rfl,by simp,a,0,rfl⟩)⟩
     ·exact⟨.slice (some (a.add (0*n))) 0 cap,by simp[Instr.sliceAt,Instr.slice,run_underlying hu,r,bt C,hc],.inr (.inr ⟨rfl,by simp,_,cap,rfl⟩)⟩
   ·cases h
  ·rename_i n b off len es C;split at h
   ·rename_i l m D Y;cases h;obtain rfl:es=n:=by simpa using Y
    rcases N with⟨rfl,rfl⟩|⟨p,a,cap,h1,rfl,h2,a1,O⟩
    ·obtain⟨r,r1,r2⟩:=cX (P:=P) (w:=w) (isS:=true) (Nat.le_refl 0) q z D;have e1:m=0:=by omega
     have e2:l=0:=by omega
     subst e1;subst e2;exact⟨.slice none 0 0,by simp[Instr.sliceAt,Instr.slice,run_underlying hu,r,bt C],.inl ⟨rfl,rfl⟩⟩
    obtain⟨r,r1,r2⟩:=cX (P:=P) (w:=w) (isS:=true) h2 q z D;by_cases hc:cap=l
    ·refine⟨.slice (some a) (m-l) (cap-l),by simp[Instr.sliceAt,Instr.slice,run_underlying hu,r,bt C];exact fun h=>(h hc).elim,.inr ⟨p,a,cap-l,h1,rfl,by omega,a1,by omega⟩⟩
    ·have T:=O (by omega);refine⟨.slice (some (a.add (l*es))) (m-l) (cap-l),by simp[Instr.sliceAt,Instr.slice,run_underlying hu,r,bt C,hc],.inr ⟨p,_,cap-l,h1,rfl,by omega,by rw[T.1,dW],fun _=>⟨?_,?_⟩⟩⟩
     ·rw[T.1,dW,Nat.add_assoc]
     ·have e0:(cap-l)*es+l*es=cap*es:=by rw[<-Nat.add_mul];congr 1;omega
      omega
   ·cases h
  ·rename_i n C;split at h
   ·rename_i lh D;cases h;obtain rfl:v=.slice none 0 0:=N;obtain⟨l,m⟩:=lh;obtain⟨r,r1,r2⟩:=cX (P:=P) (w:=w) (isS:=true) (Nat.le_refl 0) q z D;have e1:m=0:=by omega
    have e2:l=0:=by omega
    subst e1;subst e2;exact⟨.slice none 0 0,by simp[Instr.sliceAt,Instr.slice,run_underlying hu,r,bt C],rfl⟩
   ·cases h
  ·cases h
 ·rename_i len e hu;split at h
  ·rename_i n b off C;split at h
   ·rename_i l m cs D hH;split at h
    ·rename_i E;simp only[Bool.and_eq_true,decide_eq_true_eq]at E;cases h;obtain⟨p,h1,rfl⟩:=N;obtain⟨r,r1,r2⟩:=cX (P:=P) (w:=w) (isS:=false) (Nat.le_refl len) q z D;obtain⟨⟨c,e',I,a6⟩,hC⟩:=hI.ok b _ p hH h1;by_cases hc:len=l
     ·refine⟨.slice (some ⟨p.blk,p.off+off,none⟩) (m-l) (len-l),by simp[Instr.sliceAt,run_underlying hu,Instr.sureAddr,r,bt C];exact fun h=>(h hc).elim,.inr ⟨p,_,len-l,h1,rfl,by omega,rfl,by omega⟩⟩
     ·refine⟨.slice (some ⟨p.blk,p.off+off+l*n,none⟩) (m-l) (len-l),by simp[Instr.sliceAt,run_underlying hu,Instr.sureAddr,r,bt C,hc,dW],.inr ⟨p,_,len-l,h1,rfl,by omega,rfl,fun _=>⟨by rw[Nat.add_assoc],?_⟩⟩⟩;have j:cs≠[]:=by
       intro e0;subst e0;have:0<len*n:=Nat.mul_pos (by omega) E.2;simp at E;omega
      have a7:=RvC.bound hC I j;have e0:(len-l)*n+l*n=len*n:=by rw[<-Nat.add_mul];congr 1;omega
      omega
    ·cases h
   ·cases h
  ·rename_i n cs off C;split at h
   ·rename_i l m D;cases h;obtain⟨b,o,rfl,O,U⟩:=N;obtain⟨r,r1,r2⟩:=cX (P:=P) (w:=w) (isS:=false) (Nat.le_refl len) q z D;by_cases hc:len=l
    ·have e1:m-l=0:=by omega
     refine⟨.slice (some ⟨b,o+off,none⟩) (m-l) (len-l),by simp[Instr.sliceAt,run_underlying hu,Instr.sureAddr,r,bt C];exact fun h=>(h hc).elim,.inr (.inl ⟨b,o+off,len-l,rfl,by omega,?_,?_⟩)⟩
     ·intro j;simp[e1]at j
     ·simp[e1,RvC]
    ·refine⟨.slice (some ⟨b,o+off+l*n,none⟩) (m-l) (len-l),by simp[Instr.sliceAt,run_underlying hu,Instr.sureAddr,r,bt C,hc,dW],.inr (.inl ⟨b,o+off+l*n,len-l,rfl,by omega,?_,?_⟩)⟩
     ·intro j;exact O (by intro e0;subst e0;simp at j)
     ·rw[Nat.add_assoc];exact RvC.take _ _ _ _ (RvC.drop _ _ _ _ U)
   ·cases h
  ·cases h
 ·cases h
theorem tO{mu:Nat->Prop}{t:TypeId}{A:AV}{v x:Value}(j:Rv w mu π A v)(h:zt P t A x=true):
  (binOp .eql t v x).run P w=.ok (.bool false) w/\(binOp .neq t v x).run P w=.ok (.bool true) w/\∀op a b,(eqGuard op t a b v x).run P w=.ok () w:=by
 unfold zt at h;split at h
 ·rename_i e nl cs len hu;rcases j with⟨m,h1,_⟩|⟨b,o,cap,rfl,_⟩|⟨_,_,a,cap,rfl⟩
  ·subst m;subst h1;simp at h
  ·have he:=run_equal_slice_nil (P:=P) w t e (some ⟨b,o,none⟩) len cap hu;exact⟨by simp[binOp,he],by simp[binOp,he],fun op a b=>by cases op<;>simp[eqGuard]⟩
  ·have he:=run_equal_slice_nil (P:=P) w t e (some a) 0 cap hu;exact⟨by simp[binOp,he],by simp[binOp,he],fun op a b=>by cases op<;>simp[eqGuard]⟩
 ·rename_i e b off len es hu;rcases j with⟨rfl,_⟩|⟨p,a,cap,_,rfl,_⟩
  ·simp at h
  have he:=run_equal_slice_nil (P:=P) w t e (some a) len cap hu;exact⟨by simp[binOp,he],by simp[binOp,he],fun op a b=>by cases op<;>simp[eqGuard]⟩
 ·rename_i e b off hu;obtain⟨p,_,rfl⟩:=j;have he:=run_equal_pointer_nil (P:=P) w t (some ⟨p.blk,p.off+off,none⟩) (by simp[Program.pointee,hu]);exact⟨by simp[binOp,he],by simp[binOp,he],fun op a b=>by cases op<;>simp[eqGuard]⟩
 ·rename_i e cs off hu;obtain⟨b,o,rfl,_⟩:=j;have he:=run_equal_pointer_nil (P:=P) w t (some ⟨b,o+off,none⟩) (by simp[Program.pointee,hu]);exact⟨by simp[binOp,he],by simp[binOp,he],fun op a b=>by cases op<;>simp[eqGuard]⟩
 ·cases h
theorem nA{mu:Nat->Prop}{op:BinOp}{t:TypeId}{x y:Operand}{a b:AV}{m j:Value}{A:AV}(p:Rv w mu π a m)(D:Rv w mu π b j)(h:sR P op t x y a b=some A):
  ∃u,(do eqGuard op t x y m j;binOp op t m j:Sem Value).run P w=.ok u w/\Rv w mu π A u:=by
 unfold sR at h;split at h
 ·rename_i u v hu q;have e1:=iD a m u p hu;have e2:=iD b j v D q;subst e1;subst e2;split at h
  ·rename_i r E;cases h;exact⟨r,fD E w,rfl⟩
  ·cases h
 ·rename_i v hu q;have e2:=iD b j v D q;subst e2;split at h
  ·rename_i z;cases h;obtain⟨h1,_,C⟩:=tO (P:=P) p z;exact⟨_,by simp[h1,C],rfl⟩
  ·rename_i z;cases h;obtain⟨_,h1,C⟩:=tO (P:=P) p z;exact⟨_,by simp[h1,C],rfl⟩
  ·cases h
 ·cases h
theorem iR{mu:Nat->Prop}{A:AV}{v:Value}{cs:List AV}(h:Rv w mu π A v)(hc:xZ A=some cs):∃vs:Array Value,v=.agg vs/\RvL w mu π cs vs.toList:=by
 unfold xZ at hc;split at hc
 ·cases hc;exact h
 ·cases hc;cases h;exact⟨_,rfl,ff _⟩
 ·cases hc
theorem sa{mu:Nat->Prop}{E:Nat}{f:TypeId->AV->AV->Option Bool}(q:∀t a b r m p,f t a b=some r->Rv w mu π a m->Rv w mu π b p->(Op.equalIn E t m p).run P w=.ok r w){xs ys:List AV}{vs us:Array Value}(z:RvL w mu π xs vs.toList)(C:RvL w mu π ys us.toList):
  ∀(j:List Field) (r:Bool),z8 P f xs ys j=some r->(Op.eqFields E vs us j).run P w=.ok r w
 |[],r,h=>by cases h;simp[Op.eqFields]
 |g::j,r,h=>by
  simp only[z8]at h;simp only[Op.eqFields];split at h
  ·rename_i D;rw[if_neg (by simpa using D)];exact sa q z C j r h
  ·rename_i D;rw[if_pos (by simpa using D)];split at h
   ·rename_i a b I J;obtain⟨m,M,a2⟩:=iP z I;obtain⟨p,N,b2⟩:=iP C J;split at h
    ·rename_i r0 s O hs;cases h;have T:=sa q z C j s hs;simp only[Sem.run_bind,M,N,Result.andThen_ok,q _ a b r0 m p O a2 b2];cases r0<;>simp[T]
    ·cases h
   ·cases h
theorem wu{mu:Nat->Prop}{z:Nat}{e:TypeId}{f:AV->AV->Option Bool}(C:∀a b r p q,f a b=some r->Rv w mu π a p->Rv w mu π b q->(Op.equalIn z e p q).run P w=.ok r w){n:Nat}{xs ys:List AV}{vs us:Array Value}(D:RvL w mu π xs vs.toList)(E:RvL w mu π ys us.toList):
  ∀(m i:Nat) (r:Bool),BH P f e n xs ys m i=some r->
   ((forIn (List.range' i m) ((none,()):Option Bool×Unit) fun j _=>do
    let a<-part e vs (j*n);let b<-part e us (j*n);let c<-Op.equalIn z e a b
    if (!c)=true then pure (.done (some false,()))else pure (.yield (none,())):Sem (Option Bool×Unit)).run P w)=.ok (if r then(none,())else(some false,())) w
 |0,i,r,h=>by cases h;simp
 |m+1,i,r,h=>by
  simp only[BH]at h;split at h
  ·rename_i a b I J;obtain⟨p,M,a2⟩:=iP D I;obtain⟨q,N,b2⟩:=iP E J;split at h
   ·rename_i r0 s O hs;cases h;have T:=wu C D E m (i+1) s hs;simp only[List.range'_succ,List.forIn_cons,Sem.run_bind,M,N,Result.andThen_ok,C a b r0 p q O a2 b2];cases r0
    ·simp
    ·simp only[Bool.not_true,Bool.false_eq_true,if_false,Sem.run_pure,Result.andThen_ok,Bool.true_and];exact T
   ·cases h
  ·cases h
theorem mq{mu:Nat->Prop}:∀(d j:Nat) (t:TypeId) (a b:AV) (r:Bool) (q z:Value),d<=j->uG P d t a b=some r->Rv w mu π a q->Rv w mu π b z->(Op.equalIn j t q z).run P w=.ok r w
 |0,_,_,_,_,_,_,_,_,h,_,_=>by cases h
 |d+1,0,_,_,_,_,_,_,I,_,_,_=>by omega
 |d+1,j+1,t,a,b,r,q,z,I,h,m,p=>by
  simp only[uG]at h;split at h
  ·rename_i M hu;split at h
   ·rename_i k x k' y;split at h
    ·rename_i hk;cases h;obtain rfl:=IntKind.ma hk;cases m;cases p;exact run_equalIn_int w j t _ _ x y hu
    ·cases h
   ·cases h
  ·rename_i hu;split at h
   ·cases h;cases m;cases p;exact run_equalIn_bool' w j t _ _ hu
   ·cases h
  ·rename_i J hu;split at h
   ·rename_i xs ys hs D E;obtain⟨vs,rfl,h1⟩:=iR m D;obtain⟨us,rfl,h2⟩:=iR p E;have C:P.fieldsOf t=J:=by unfold Program.fieldsOf;rw[hu]
    rw[run_equalIn_struct w j t vs us (by rw[C];exact hu) hs,C];exact sa (fun t a b r q z h m p=>mq d j t a b r q z (by omega) h m p) h1 h2 _ r h
   ·cases h
  ·rename_i n e hu;split at h
   ·rename_i k xs ys hs D E;obtain⟨vs,rfl,h1⟩:=iR m D;obtain⟨us,rfl,h2⟩:=iR p E;have key:=wu (n:=k) (fun a b r q z h m p=>mq d j e a b r q z (by omega) h m p) h1 h2 n 0 r h;simp only[Op.equalIn,Sem.run_bind,run_underlying hu,Result.andThen_ok,bt hs,Std.Legacy.Range.forIn_eq_forIn_range',Std.Legacy.Range.size,Nat.sub_zero,Nat.add_sub_cancel,Nat.div_one];rw[key];cases r<;>simp
   ·cases h
  ·cases h
theorem tu{mu:Nat->Prop}{op:BinOp}{t:TypeId}{x y:Operand}{a b:AV}{p q:Value}{A:AV}(j:Rv w mu π a p)(m:Rv w mu π b q)(h:zC P op t a b=some A):
  ∃u,(do eqGuard op t x y p q;binOp op t p q:Sem Value).run P w=.ok u w/\Rv w mu π A u:=by
 unfold zC at h;split at h
 ·rename_i xs ys z C D;obtain⟨vs,rfl,_⟩:=iR j C;obtain⟨us,rfl,_⟩:=iR m D;split at h
  ·rename_i r E;cases h;refine⟨.bool r,?_,rfl⟩;simp only[Sem.run_bind,run_eqGuard_agg w .eql t x y vs us z,Result.andThen_ok,run_eql_struct,mq 8 10000 t a b r _ _ (by omega) E j m]
  ·cases h
 ·rename_i xs ys z C D;obtain⟨vs,rfl,_⟩:=iR j C;obtain⟨us,rfl,_⟩:=iR m D;split at h
  ·rename_i r E;cases h;refine⟨.bool (!r),?_,rfl⟩;simp only[Sem.run_bind,run_eqGuard_agg w .neq t x y vs us z,Result.andThen_ok,run_neq_struct,mq 8 10000 t a b r _ _ (by omega) E j m]
  ·cases h
 ·cases h
theorem zR{mu:Nat->Prop}{op:BinOp}{t:TypeId}{x y:Operand}{a b:AV}{q z:Value}{A:AV}(j:Rv w mu π a q)(p:Rv w mu π b z)(h:ui P op t x y a b=some A):
  ∃u,(do eqGuard op t x y q z;binOp op t q z:Sem Value).run P w=.ok u w/\Rv w mu π A u:=by
 unfold ui at h;split at h
 ·rename_i k m k' n;split at h
  ·rename_i hk;obtain rfl:=IntKind.ma hk;split at h
   ·rename_i r C;cases h;cases j;cases p;exact⟨r,zw C w,rfl⟩
   ·exact nA j p h
  ·exact nA j p h
 ·exact tu j p h
 ·exact tu j p h
 ·exact nA j p h
theorem Bi{mu:Nat->Prop}{src dst:TypeId}{a:AV}{v u:Value}(j:Rv w mu π a v)(h:FK P src dst a=some u):(convert src dst v).run P w=.ok u w:=by
 unfold FK at h;split at h
 ·split at h
  ·rename_i d k hs m;cases h;cases j;simp[convert,run_underlying hs,run_underlying m,Conv.intToInt,jr]
  ·cases h
 ·cases h
end
end Go.Eng


namespace Go.Eng
open Go Go.RowKit Go.MapKept
variable[Dr]
section
variable{P:Program}{out:Nat->Prop}{B:Nat->Prop}{w:World}{π:List (Option PB)}{H:List Blk}
theorem ua:∀(l j:List Value),pf l j=some true->l=j/\(j.zip l).all (fun(x,y)=>Instr.sameBits 9999 x y)=true
 |[],[],_=>⟨rfl,rfl⟩
 |.int k x::l,.int k' y::j,h=>by
  simp only[pf]at h;split at h
  ·rename_i m hk h1;simp only[Option.some.injEq,Bool.and_eq_true,beq_iff_eq]at h;obtain⟨rfl,rfl⟩:=h;obtain rfl:=IntKind.ma hk;obtain⟨rfl,h2⟩:=ua l j h1;exact⟨rfl,by rw[List.zip_cons_cons,List.all_cons,h2];simp[Instr.sameBits]⟩
  ·cases h
 |[],_::_,h=>by simp[pf]at h
theorem AB{k v:Value}(h:kEq k v=some true):Instr.sameBits 10000 v k=true:=by
 unfold kEq at h;split at h
 ·rename_i a b;obtain⟨h1,h2⟩:=ua _ _ h;have hs:b.size=a.size:=by have:=congrArg List.length h1;simpa using this.symm
  show(b.size==a.size&&(b.toList.zip a.toList).all fun(x,y)=>Instr.sameBits 9999 x y)=true;rw[h2,hs];simp
 ·split at h
  ·rename_i j;have e:=IntKind.ma j;subst e;simp only[Option.some.injEq,beq_iff_eq]at h;subst h;simp[Instr.sameBits]
  ·cases h
 ·simp only[Option.some.injEq,beq_iff_eq]at h;subst h;simp[Instr.sameBits]
 ·cases h
theorem mm{e:TypeId}(h:nt P e=true):(∃k,P.underlying e=some (.int k))/\eG P e=some 1/\DY P e=some false:=by
 unfold nt at h;split at h
 ·rename_i k n hu hs;obtain rfl:=Nat.eq_of_beq_eq_true h;exact⟨⟨k,hu⟩,hs,by unfold DY;rw[hu]⟩
 ·cases h
theorem zY{e:TypeId}(h:nt P e=true){k k':IntKind}{x y:Int}(hk:IntKind.rk k k'=true)(d:Nat):uG P (d+1) e (.at (.int k x)) (.at (.int k' y))=some (x==y):=by
 obtain⟨⟨q,hu⟩,_,_⟩:=mm h;simp only[uG,hu,hk]
theorem yJ{e:TypeId}(h:nt P e=true)(xs:List Value)(i:Nat):pG P e (xs.map .at) i=(xs[i]?).map .at:=by
 obtain⟨_,_,j⟩:=mm h;simp only[pG,j,List.getElem?_map]
theorem drop_cons{xs l:List Value}{x:Value}{i:Nat}(h:xs.drop i=x::l):xs[i]?=some x/\xs.drop (i+1)=l:=by
 have h1:xs[i]?=some x:=by rw[<-List.head?_drop,h];rfl
 refine⟨h1,?_⟩;rw[<-List.drop_drop,h];rfl
theorem E1{xs ys:List Value}:∀(j:List Field) (i:Nat) (r:Bool),uN P j i=true->pf (xs.drop i) (ys.drop i)=some r->(xs.drop i).length=j.length->z8 P (uG P 1) (xs.map .at) (ys.map .at) j=some r
 |[],i,r,_,h,m=>by
  have:xs.drop i=[]:=List.length_eq_zero_iff.1 m;rw[this]at h;cases p:ys.drop i with
  |nil=>rw[p]at h;simp only[pf]at h;simp only[z8];exact h
  |cons y l=>rw[p]at h;simp[pf]at h
 |f::j,i,r,hw,h,m=>by
  simp only[uN,Bool.and_eq_true]at hw;obtain⟨⟨⟨w1,z⟩,D⟩,E⟩:=hw;have z:=Nat.eq_of_beq_eq_true z;cases q:xs.drop i with
  |nil=>rw[q]at m;simp at m
  |cons x l=>
   cases p:ys.drop i with
   |nil=>rw[q,p]at h;cases x<;>simp[pf]at h
   |cons y U=>
    obtain⟨x1,x2⟩:=drop_cons q;obtain⟨I,J⟩:=drop_cons p;rw[q,p]at h;have C:(xs.drop (i+1)).length=j.length:=by rw[x2];rw[q]at m;simpa using m
    unfold pf at h;split at h
    ·rename_i e1 _;cases e1
    ·rename_i k a Y k' b M e1 e2;cases e1;cases e2;split at h
     ·rename_i N hk h1;cases h;have O:=E1 (xs:=xs) (ys:=ys) j (i+1) N E (by rw[x2,J];exact h1) C;have T:decide (f.name= "_")=false:=by simpa using w1
      simp only[z8,T,yJ D,z,x1,I,Option.map_some,zY D hk,O]
     ·cases h
    ·cases h
theorem EA{e:TypeId}(z:nt P e=true){xs ys:List Value}:∀(m i:Nat) (r:Bool),pf (xs.drop i) (ys.drop i)=some r->(xs.drop i).length=m->BH P (uG P 1 e) e 1 (xs.map .at) (ys.map .at) m i=some r
 |0,i,r,h,j=>by
  have:xs.drop i=[]:=List.length_eq_zero_iff.1 j;rw[this]at h;cases p:ys.drop i with
  |nil=>rw[p]at h;simp only[pf]at h;simp only[BH];exact h
  |cons y l=>rw[p]at h;simp[pf]at h
 |m+1,i,r,h,j=>by
  cases q:xs.drop i with
  |nil=>rw[q]at j;simp at j
  |cons x l=>
   cases p:ys.drop i with
   |nil=>rw[q,p]at h;cases x<;>simp[pf]at h
   |cons y N=>
    obtain⟨x1,x2⟩:=drop_cons q;obtain⟨D,E⟩:=drop_cons p;rw[q,p]at h;have C:(xs.drop (i+1)).length=m:=by rw[x2];rw[q]at j;simpa using j
    unfold pf at h;split at h
    ·rename_i e1 _;cases e1
    ·rename_i k a O k' b I e1 e2;cases e1;cases e2;split at h
     ·rename_i J hk h1;cases h;have M:=EA z (xs:=xs) (ys:=ys) m (i+1) J (by rw[x2,E];exact h1) C;simp only[BH,Nat.mul_one,yJ z,x1,D,Option.map_some,zY z hk,M]
     ·cases h
    ·cases h
theorem wY{t:TypeId}{a b:Array Value}{r:Bool}(j:mc P t a=true)(h:pf a.toList b.toList=some r)(w:World):(Op.equal t (.agg a) (.agg b)).run P w=.ok r w:=by
 have key:uG P 2 t (.at (.agg a)) (.at (.agg b))=some r:=by
  unfold mc at j;split at j
  ·rename_i n e hu;simp only[Bool.and_eq_true]at j;obtain⟨⟨h1,h2⟩,_⟩:=j;obtain⟨_,hs,_⟩:=mm h1;have h2:=Nat.eq_of_beq_eq_true h2;simp only[uG,hu,hs,xZ];exact EA h1 n 0 r (by simpa using h) (by simpa using h2)
  ·rename_i p hu;simp only[Bool.and_eq_true]at j;obtain⟨⟨⟨h1,h2⟩,_⟩,m⟩:=j;have h2:=Nat.eq_of_beq_eq_true h2;have m:P.stoodInHeld t=false:=by simpa using m
   simp only[uG,hu,m,xZ];exact E1 p.toList 0 r h1 (by simpa using h) (by simpa using h2)
  ·cases j
 exact mq (P:=P) (w:=w) (mu:=fun _=>False) (π:=[]) 2 10000 t _ _ r _ _ (by omega) key rfl rfl
theorem Eo{e:TypeId}(h:nt P e=true)(em:Bool)(n:Nat){k:IntKind}{x:Int}(w:World):(Instr.checkKey em (n+1) e (.int k x)).run P w=.ok () w:=by
 obtain⟨⟨q,hu⟩,_,_⟩:=mm h;simp[Instr.checkKey,run_underlying hu]
theorem wo:∀(l:List Value),sQ l=true->∀(i:Nat) (v:Value),l[i]?=some v->∃k x,v=.int k x
 |[],_,i,v,hi=>by simp at hi
 |.int k x::l,h,i,v,hi=>by
  cases i with
  |zero=>simp at hi;exact⟨k,x,hi.symm⟩
  |succ i=>exact wo l (by simpa [sQ]using h) i v (by simpa using hi)
theorem Am{e:TypeId}(h:nt P e=true){xs:Array Value}{i:Nat}{v:Value}(j:xs[i]?=some v)(w:World):(part e xs i).run P w=.ok v w:=by
 obtain⟨⟨q,hu⟩,_,_⟩:=mm h;simp[part,isAgg,run_underlying hu,j]
theorem AM{t:TypeId}{a:Array Value}(p:mc P t a=true)(em:Bool)(n:Nat)(w:World)(J:∀(e:TypeId) (k:IntKind) (x:Int),nt P e=true->(Instr.checkKey em n e (.int k x)).run P w=.ok () w):(Instr.checkKey em (n+1) t (.agg a)).run P w=.ok () w:=by
 unfold mc at p;split at p
 ·rename_i m0 e hu;simp only[Bool.and_eq_true]at p;obtain⟨⟨h1,h2⟩,C⟩:=p;obtain⟨_,hs,_⟩:=mm h1;have h2:=Nat.eq_of_beq_eq_true h2;have key:∀(m i:Nat),i+m<=a.size->((forIn (List.range' i m) PUnit.unit fun j _=>do
    let s<-sizeOf e;let v<-part e a (j*s)
    Instr.checkKey em n e v
    pure (ForInStep.yield PUnit.unit):Sem PUnit).run P w)=.ok PUnit.unit w:=by
   intro m;induction m with
   |zero=>intro i _;simp
   |succ m D=>
    intro i hi;have q:i<a.size:=by omega
    have z:a[i]?=some a[i]:=Array.getElem?_eq_getElem q;obtain⟨k,x,e1⟩:=wo a.toList C i a[i] (by rw[Array.getElem?_toList];exact z);simp only[List.range'_succ,List.forIn_cons,Sem.run_bind,bt hs,Result.andThen_ok,Nat.mul_one,Am h1 z,e1,J e k x h1,Sem.run_pure];exact D (i+1) (by omega)
  have:=key m0 0 (by omega);simp only[Instr.checkKey,Sem.run_bind,run_underlying hu,Result.andThen_ok,Std.Legacy.Range.forIn_eq_forIn_range',Std.Legacy.Range.size,Nat.sub_zero,Nat.add_sub_cancel,Nat.div_one,this,Sem.run_pure]
 ·rename_i N hu;simp only[Bool.and_eq_true]at p;obtain⟨⟨⟨h1,h2⟩,C⟩,_⟩:=p;have h2:=Nat.eq_of_beq_eq_true h2;have key:∀(l:List Field) (i:Nat),uN P l i=true->i+l.length<=a.size->((forIn l PUnit.unit fun f _=>
    if f.name≠ "_" then do
     let v<-part f.type a f.offset
     Instr.checkKey em n f.type v
     pure (ForInStep.yield PUnit.unit)
    else pure (ForInStep.yield PUnit.unit):Sem PUnit).run P w)=.ok PUnit.unit w:=by
   intro l;induction l with
   |nil=>intro i _ _;simp
   |cons f l D=>
    intro i hw hi;simp only[uN,Bool.and_eq_true]at hw;obtain⟨⟨⟨w1,E⟩,M⟩,O⟩:=hw;have E:=Nat.eq_of_beq_eq_true E;have q:i<a.size:=by simp at hi;omega
    have z:a[i]?=some a[i]:=Array.getElem?_eq_getElem q;obtain⟨k,x,e1⟩:=wo a.toList C i a[i] (by rw[Array.getElem?_toList];exact z);have I:f.name≠ "_" :=by simpa using w1
    simp only[List.forIn_cons,Sem.run_bind,I,ne_eq,not_false_eq_true,if_true,E,Am M z,Result.andThen_ok,e1,J f.type k x M,Sem.run_pure];exact D (i+1) O (by simp at hi;omega)
  have:=key N.toList 0 h1 (by omega);simp only[Instr.checkKey,Sem.run_bind,run_underlying hu,Result.andThen_ok];rw[<-Array.forIn_toList];have e:=congrArg (fun r=>r.andThen fun(a:PUnit) w'=>Sem.run P (pure ()) w') this;simp only[Result.andThen_ok,Sem.run_pure]at e;first|exact this|exact e
 ·cases p
theorem Cn{t:TypeId}{a:Array Value}(j:mc P t a=true)(em:Bool)(w:World):(Instr.checkKey em 10000 t (.agg a)).run P w=.ok () w:=AM j em 9999 w fun e k x h=>Eo h em 9998 w
theorem rE{mu:Nat->Prop}{t:TypeId}{a:Array Value}(D:mc P t a=true):∀(es:List (Value×AV)) (l:List MapEntry) (i0 j:Nat) (r:Option (Nat×AV)),RvM w mu π j es l->ka (.agg a) es i0=some r->
  (r=none/\(Instr.findAsking t (.agg a) l i0).run P w=.ok none w)\/∃(q:Nat) (e:MapEntry) (A:AV),r=some (i0+q,A)/\(Instr.findAsking t (.agg a) l i0).run P w=.ok (some (i0+q,e.val)) w/\l[q]?=some e/\es[q]?=some (e.key,A)/\e.born=j+q/\Rv w mu π A e.val/\Instr.sameBits 10000 e.key (.agg a)=true
 |[],l,i0,j,r,h,z=>by cases h;cases z;exact .inl ⟨rfl,by simp[Instr.findAsking]⟩
 |(k',A)::es,l,i0,j,r,h,z=>by
  obtain⟨e,E,rfl,rfl,J,M,N⟩:=h;simp only[ka]at z;have C:∀b,kEq (.agg a) e.key=some b->∃c,e.key=.agg c/\pf a.toList c.toList=some b:=by
   intro b p;cases hk:e.key<;>rw[hk]at p<;>simp only[kEq]at p;all_goals first|exact⟨_,rfl,p⟩|cases p
  split at z
  ·rename_i p;cases z;obtain⟨c,hc,I⟩:=C _ p;refine .inr ⟨0,e,A,rfl,?_,rfl,rfl,J,M,AB p⟩;simp only[Instr.findAsking,hc,Sem.run_bind,wY D I,Result.andThen_ok,if_true,Sem.run_pure,Nat.add_zero]
  ·rename_i p;obtain⟨c,hc,I⟩:=C _ p;have m:(Instr.findAsking t (.agg a) (e::E) i0).run P w=(Instr.findAsking t (.agg a) E (i0+1)).run P w:=by
    simp only[Instr.findAsking,hc,Sem.run_bind,wY D I,Result.andThen_ok,Bool.false_eq_true,if_false]
   rcases rE D es E (i0+1) (j+1) r N z with⟨e1,e2⟩|⟨q,O,T,e1,e2,U,Y,e5,e6,e7⟩
   ·exact .inl ⟨e1,by rw[m];exact e2⟩
   ·exact .inr ⟨q+1,O,T,by rw[e1];congr 2;omega,by rw[m,e2];congr 3;omega,by simpa using U,by simpa using Y,by omega,e6,e7⟩
  ·cases z
theorem C2{d:TypeDesc}{k v:Value}{b:Bool}(hk:IsKey d k)(h:kEq k v=some b):Instr.sameNow d k v=some b:=by
 unfold kEq at h;split at h
 ·cases d<;>simp only[IsKey]at hk
 ·rename_i m x p y;split at h
  ·rename_i j;cases h;have e:=IntKind.ma j;subst e;cases d<;>simp only[IsKey]at hk;simp[Instr.sameNow]
  ·cases h
 ·cases h;cases d<;>simp only[IsKey]at hk;simp[Instr.sameNow]
 ·cases h
theorem vg{mu:Nat->Prop}{d:TypeDesc}{k:Value}(hk:IsKey d k):∀(es:List (Value×AV)) (l:List MapEntry) (i0 j:Nat) (r:Option (Nat×AV)),RvM w mu π j es l->ka k es i0=some r->
  (r=none/\Instr.findNow d k l i0=some none)\/∃(m:Nat) (e:MapEntry) (A:AV),r=some (i0+m,A)/\Instr.findNow d k l i0=some (some (i0+m,e.val))/\l[m]?=some e/\es[m]?=some (e.key,A)/\e.born=j+m/\Rv w mu π A e.val/\Instr.sameBits 10000 e.key k=true
 |[],l,i0,j,r,h,p=>by cases h;cases p;exact .inl ⟨rfl,rfl⟩
 |(k',A)::es,l,i0,j,r,h,p=>by
  obtain⟨e,z,rfl,rfl,C,D,E⟩:=h;simp only[ka]at p;split at p
  ·rename_i q;cases p;have g1:=C2 hk q;exact .inr ⟨0,e,A,rfl,by simp[Instr.findNow,g1],rfl,rfl,C,D,AB q⟩
  ·rename_i q;have g1:=C2 hk q;rcases vg hk es z (i0+1) (j+1) r E p with⟨e1,e2⟩|⟨m,I,J,e1,e2,M,N,U,O,T⟩
   ·exact .inl ⟨e1,by simp[Instr.findNow,g1,e2]⟩
   ·exact .inr ⟨m+1,I,J,by rw[e1];congr 2;omega,by simp[Instr.findNow,g1,e2];omega,by simpa using M,by simpa using N,by omega,O,T⟩
  ·cases p
theorem kp{mu:Nat->Prop}{t:TypeId}{k:Value}(hk:fZ P t k=true){es:List (Value×AV)}{l:List MapEntry}{r:Option (Nat×AV)}(h:RvM w mu π 0 es l)(z:ka k es 0=some r):
  (∀em,(Instr.checkKey em 10000 t k).run P w=.ok () w)/\((r=none/\(Instr.findKey t k l).run P w=.ok none w)\/∃(j:Nat) (e:MapEntry) (A:AV),r=some (0+j,A)/\(Instr.findKey t k l).run P w=.ok (some (0+j,e.val)) w/\l[j]?=some e/\es[j]?=some (e.key,A)/\e.born=0+j/\Rv w mu π A e.val/\Instr.sameBits 10000 e.key k=true):=by
 have simple:∀d,P.underlying t=some d->IsKey d k->_:=fun d q p=>by
  refine And.intro (a:=∀em,(Instr.checkKey em 10000 t k).run P w=.ok () w) (b:=(r=none/\(Instr.findKey t k l).run P w=.ok none w)\/∃(j:Nat) (e:MapEntry) (A:AV),r=some (0+j,A)/\(Instr.findKey t k l).run P w=.ok (some (0+j,e.val)) w/\l[j]?=some e/\es[j]?=some (e.key,A)/\e.born=0+j/\Rv w mu π A e.val/\Instr.sameBits 10000 e.key k=true) (fun em=>Go.MapKept.run_checkKey q p em 9999) ?_;rcases vg p es l 0 0 _ h z with⟨e1,e2⟩|⟨j,C,A2,e1,e2,D,E,I,J,M⟩
  ·exact .inl ⟨e1,Go.MapKept.run_findKey q e2⟩
  ·exact .inr ⟨j,C,A2,e1,Go.MapKept.run_findKey q e2,D,E,I,J,M⟩
 unfold fZ at hk;split at hk
 ·rename_i N O n hu;exact simple _ hu (IntKind.ma hk).symm
 ·rename_i b hu;exact simple _ hu trivial
 ·rename_i T a hu;refine⟨fun em=>Cn hk em w,?_⟩;have hw:(Instr.findKey t (.agg a) l).run P w=(Instr.findAsking t (.agg a) l).run P w:=by
   cases l with
   |nil=>simp[Instr.findKey,run_underlying hu,Instr.findNow,Instr.findAsking]
   |cons e l=>
    unfold mc at hk;split at hk
    ·rename_i n U m;simp[Instr.findKey,run_underlying m,Instr.findNow,Instr.sameNow]
    ·rename_i Y m;simp[Instr.findKey,run_underlying m,Instr.findNow,Instr.sameNow]
    ·cases hk
  rw[hw];exact rE hk es l 0 0 _ h z
 ·cases hk
theorem RvM.len{mu:Nat->Prop}:∀(es:List (Value×AV)) (l:List MapEntry) (j:Nat),RvM w mu π j es l->l.length=es.length
 |[],_,_,h=>by cases h;rfl
 |(k,A)::es,_,j,h=>by obtain⟨e,m,rfl,_,_,_,p⟩:=h;simp[RvM.len es m _ p]
theorem RvM.get{mu:Nat->Prop}:∀(es:List (Value×AV)) (l:List MapEntry) (j i:Nat) (k:Value) (A:AV),RvM w mu π j es l->es[i]?=some (k,A)->∃e,l[i]?=some e/\e.key=k/\e.born=j+i/\Rv w mu π A e.val
 |[],_,_,i,k,A,_,h=>by simp at h
 |(k',D)::es,_,j,i,k,A,h,hi=>by
  obtain⟨e,m,rfl,h2,p,q,z⟩:=h;cases i with
  |zero=>simp at hi;obtain⟨rfl,rfl⟩:=hi;exact⟨e,rfl,h2,p,q⟩
  |succ i=>
   obtain⟨C,g1,g2,g3,g4⟩:=RvM.get es m (j+1) i k A z (by simpa using hi);exact⟨C,by simpa using g1,g2,by omega,g4⟩
theorem RvM.set{mu:Nat->Prop}{k:Value}{A:AV}{v:Value}(m:Rv w mu π A v):∀(es:List (Value×AV)) (l:List MapEntry) (j i:Nat),RvM w mu π j es l->RvM w mu π j (es.set i (k,A)) (l.modify i fun e=>{e with key:=k,val:=v})
 |[],_,_,i,h=>by cases h;cases i<;>simp[RvM]
 |(k',D)::es,_,j,i,h=>by
  obtain⟨e,p,rfl,h2,q,C,z⟩:=h;cases i with
  |zero=>exact⟨_,p,rfl,rfl,q,m,z⟩
  |succ i=>exact⟨e,_,rfl,h2,q,C,RvM.set m es p (j+1) i z⟩
theorem RvM.snoc{mu:Nat->Prop}{k:Value}{A:AV}{v:Value}(m:Rv w mu π A v):∀(es:List (Value×AV)) (l:List MapEntry) (j:Nat),RvM w mu π j es l->RvM w mu π j (es++[(k,A)]) (l++[{key:=k,val:=v,born:=j+es.length}])
 |[],_,j,h=>by cases h;exact⟨_,[],rfl,rfl,rfl,m,rfl⟩
 |(k',p)::es,_,j,h=>by
  obtain⟨e,q,rfl,h2,z,C,D⟩:=h;have:=RvM.snoc (k:=k) m es q (j+1) D;rw[show j+1+es.length=j+((k',p)::es).length by simp;omega]at this;exact⟨e,_,rfl,h2,z,C,this⟩
theorem lj(m:Inv out B w π H){x:AV}{v:Value}{b:Nat}{es:List (Value×AV)}(q:Rv w (aI out π H) π x v)(h:jl H x=some (b,es)):
  H[b]?=some (.map es)/\∃(p:PB) (a:Array MapEntry),v=.map (some p.blk)/\π[b]?=some (some p)/\w.heap[p.blk]?=some (.map a a.size)/\RvM w (aI out π H) π 0 es a.toList:=by
 unfold jl at h;split at h
 ·rename_i z;split at h
  ·rename_i es' j;cases h;obtain⟨p,hp,rfl⟩:=q;obtain⟨a,h1,h2⟩:=m.ok _ _ p j hp;exact⟨j,p,a,rfl,hp,h1,h2⟩
  ·cases h
 ·cases h
theorem vn{e:TypeId}{z:AV}(h:xl P e=some z):∃j,(∀w,(zeroValue e).run P w=.ok j w)/\∀(w:World) (mu:Nat->Prop) (π:List (Option PB)),Rv w mu π z j:=by
 unfold xl at h;split at h
 ·rename_i i hi;split at h
  ·rename_i a m;cases h;exact⟨.agg a,fun w=>by simp[zeroValue,typeInfo,hi,m],fun w mu π=>⟨a,rfl,ff _⟩⟩
  ·rename_i v _ p;cases h;exact⟨v,fun w=>by simp[zeroValue,typeInfo,hi,p],fun w mu π=>rfl⟩
  ·cases h
 ·cases h
theorem xN(hI:Inv out B w π H){t:TypeId}{x E:AV}{v C:Value}{ok:Bool}{A:AV}(hx:Rv w (aI out π H) π x v)(hi:Rv w (aI out π H) π E C)(h:cI P H t x E ok=some A):
  ∃u,(Instr.lookup t v C ok).run P w=.ok u w/\Rv w (aI out π H) π A u:=by
 unfold cI at h;split at h
 ·rename_i kt e b es k hu hm I;obtain⟨_,p,a,rfl,hp,T,U⟩:=lj hI hx hm;obtain rfl:C=k:=iD E C k hi I;have j:∀{J:AV} {u:Value} {c:Bool},Rv w (aI out π H) π J u->Rv w (aI out π H) π (.tup [J,.at (.bool c)]) (.tuple #[u,.bool c]):=fun h=>⟨_,rfl,_,_,rfl,h,_,_,rfl,rfl,rfl⟩
  split at h
  ·rename_i z i J hk Y M;obtain⟨m,q⟩:=kp hk U M;rcases q with⟨e1,_⟩|⟨jx,N,A2,e1,e2,_,_,_,e6,_⟩
   ·cases e1
   ·cases e1;have run:∀o,(Instr.lookup t (.map (some p.blk)) C o).run P w=.ok (if o then .tuple #[N.val,.bool true]else N.val) w:=by
     intro o;simp only[Instr.lookup,Sem.run_bind,run_underlying hu,Result.andThen_ok,Go.MapKept.run_getObj_map T,Sem.run_pure,m,e2]
    cases h;refine⟨_,run ok,?_⟩;cases ok
    ·exact e6
    ·exact j e6
  ·rename_i z hk Y M;obtain⟨m,q⟩:=kp hk U M;obtain⟨zv,O,D⟩:=vn Y;rcases q with⟨_,e2⟩|⟨jx,N,A2,e1,_⟩
   ·have run:∀o,(Instr.lookup t (.map (some p.blk)) C o).run P w=.ok (if o then .tuple #[zv,.bool false]else zv) w:=by
     intro o;simp only[Instr.lookup,Sem.run_bind,run_underlying hu,Result.andThen_ok,Go.MapKept.run_getObj_map T,Sem.run_pure,m,e2,O]
    cases h;refine⟨_,run ok,?_⟩;cases ok
    ·exact D _ _ _
    ·exact j (D _ _ _)
   ·cases e1
  ·cases h
 ·cases h
theorem toList_modify(a:Array MapEntry)(i:Nat)(f:MapEntry->MapEntry):(a.modify i f).toList=a.toList.modify i f:=by simp
theorem tW(j:Inv out B w π H){b:Nat}{es es':List (Value×AV)}{p:PB}{a a':Array MapEntry}(hH:H[b]?=some (.map es))(hp:π[b]?=some (some p))(m:w.heap[p.blk]?=some (.map a a.size))
  (q:∀(w':World) (mu':Nat->Prop),(∀A v,Rv w (aI out π H) π A v->Rv w' mu' π A v)->RvM w' mu' π 0 es' a'.toList):
  ∃w',w'={w with heap:=w.heap.setIfInBounds p.blk (.map a' a'.size)}/\Ext B w w' (aI out π H) (aI out π (aN H [(b,.map es')])) π π/\Inv out B w' π (aN H [(b,.map es')]):=by
 have hu:aN H [(b,.map es')]=H.set b (.map es'):=by simp[aN,upd,aK hH]
 rw[hu];refine⟨_,rfl,?_⟩;obtain⟨g1,g2⟩:=heap_set (o':=.map a' a'.size) m;exact j.pv hH hp rfl (.map es') (by simp) (fun c hc=>g2 c hc) rfl rfl rfl (fun _=>Nat.le_refl _) (fun z=>⟨a',g1,q _ _ (fun A v h=>Rv.ext z A v h)⟩)
theorem RvM.of{w':World}{mu mu':Nat->Prop}(h:∀A v,Rv w mu π A v->Rv w' mu' π A v):∀(i:Nat) (es:List (Value×AV)) (l:List MapEntry),RvM w mu π i es l->RvM w' mu' π i es l
 |_,[],_,j=>j
 |i,(k,A)::es,l,j=>by
  obtain⟨e,m,h1,h2,p,q,z⟩:=j;exact⟨e,m,h1,h2,p,h _ _ q,RvM.of h (i+1) es m z⟩
theorem stays{old new:Value}(h:Instr.sameBits 10000 old new=true)(w:World):(Instr.keyThatStays old new).run P w=.ok new w:=by simp[Instr.keyThatStays,h]
theorem qk(M:Inv out B w π H){t:TypeId}{m k x:AV}{vm vk I:Value}{r:bj}(hm:Rv w (aI out π H) π m vm)(hk:Rv w (aI out π H) π k vk)(hx:Rv w (aI out π H) π x I)(h:cn P H t m k x=some r):
  bX P out B w π H (do Instr.mapUpdate t vm vk I;pure .skip) r:=by
 unfold cn at h;split at h
 ·rename_i kt e b es k' hu N O;obtain⟨hH,p,a,rfl,hp,D,E⟩:=lj M hm N;obtain rfl:vk=k':=iD k vk k' hk O;split at h
  ·rename_i i A hk T;cases h;obtain⟨q,z⟩:=kp hk E T;rcases z with⟨e1,_⟩|⟨J,en,A2,e1,e2,e3,e4,e5,e6,e7⟩
   ·cases e1
   ·cases e1;obtain⟨w',rfl,U,C⟩:=tW M (es':=es.set (0+J) (vk,x)) (a':=a.modify (0+J) fun e=>{e with key:=vk,val:=I}) hH hp D (fun w' mu' j=>by
     rw[toList_modify];exact RvM.set (j _ _ hx) es a.toList 0 _ (RvM.of j 0 es _ E))
    have Y:(((a[0+J]?).map (·.key)).getD vk)=en.key:=by rw[<-Array.getElem?_toList,Nat.zero_add,e3];rfl
    refine⟨.skip,undef,_,π,?_,.inr ⟨rfl,rfl⟩,U,C,trivial,fun _ _=>rfl⟩;simp only[Instr.mapUpdate,Sem.run_bind,run_underlying hu,Result.andThen_ok,Go.MapKept.run_getObj_map D,q,e2,Y,stays e7];simp[Go.MapKept.run_setObj_map _ D]
  ·rename_i hk T;cases h;obtain⟨q,z⟩:=kp hk E T;rcases z with⟨_,e2⟩|⟨J,en,A2,e1,_⟩
   ·have hl:=RvM.len es a.toList 0 E;have hl:a.size=es.length:=by simpa using hl
    obtain⟨w',rfl,U,C⟩:=tW M (es':=es++[(vk,x)]) (a':=a.push {key:=vk,val:=I,born:=a.size}) hH hp D (fun w' mu' j=>by
     have:=RvM.snoc (k:=vk) (j _ _ hx) es a.toList 0 (RvM.of j 0 es _ E);rw[Nat.zero_add,<-hl]at this;simpa using this)
    refine⟨.skip,undef,_,π,?_,.inr ⟨rfl,rfl⟩,U,C,trivial,fun _ _=>rfl⟩;simp only[Instr.mapUpdate,Sem.run_bind,run_underlying hu,Result.andThen_ok,Go.MapKept.run_getObj_map D,q,e2];simp[Go.MapKept.run_setObj_map _ D]
   ·cases e1
  ·cases h
 ·cases h
theorem yD{A:AV}{w':World}{mu:Nat->Prop}{u:Value}{i:Nat}(h:Rv w' mu π A u):Rv w' mu π (.tup [A,.at (.int .i64 i)]) (.tuple #[u,goInt i]):=⟨_,rfl,_,_,rfl,h,_,_,rfl,rfl,rfl⟩
theorem x6(Y:Inv out B w π H){t:TypeId}{m k:AV}{vm vk:Value}{r:bj}(hm:Rv w (aI out π H) π m vm)(hk:Rv w (aI out π H) π k vk)(h:kO P H t m k=some r):
  bX P out B w π H (do pure (.value (<-Instr.mapEntry t vm vk))) r:=by
 unfold kO at h;split at h
 ·rename_i kt e b es k' hu a1 a6;obtain⟨hH,p,a,rfl,hp,J,M⟩:=lj Y hm a1;obtain rfl:vk=k':=iD k vk k' hk a6;have T:=RvM.len es a.toList 0 M;have T:a.size=es.length:=by simpa using T
  split at h
  ·rename_i z i A hk hz hf;cases h;obtain⟨q,C⟩:=kp hk M hf;rcases C with⟨e1,_⟩|⟨D,E,A2,e1,e2,e3,e4,e5,e6,e7⟩
   ·cases e1
   ·cases e1;have N:a.modify (0+D) (fun e=>{e with key:=vk})=a.modify (0+D) fun e=>{e with key:=vk,val:=E.val}:=by
     apply Array.ext (by simp);intro i h1 h2;rw[Array.getElem_modify,Array.getElem_modify];split
     ·rename_i hi;have:a[i]'(by simpa using h1)=E:=by
       have:a[i]?=some E:=by rw[<-hi,<-Array.getElem?_toList,Nat.zero_add];exact e3
       exact(Array.getElem?_eq_some_iff.1 this).2
      rw[this]
     ·rfl
    obtain⟨w',rfl,U,I⟩:=tW Y (es':=es.set (0+D) (vk,A)) (a':=a.modify (0+D) fun e=>{e with key:=vk,val:=E.val}) hH hp J (fun w' mu' j=>by
     rw[toList_modify];exact RvM.set (j _ _ e6) es a.toList 0 _ (RvM.of j 0 es _ M))
    have hj:a[0+D]?=some E:=by rw[<-Array.getElem?_toList,Nat.zero_add,e3]
    refine⟨.value (.tuple #[E.val,goInt ((0+D:Nat):Int)]),_,_,π,?_,.inl rfl,U,I,yD (Rv.ext U _ _ e6),fun _ _=>rfl⟩;simp only[Instr.mapEntry,Sem.run_bind,run_underlying hu,Result.andThen_ok,Go.MapKept.run_getObj_map J,q,e2,hj,Option.map_some,Option.getD_some,stays e7,N,e5];simp[Go.MapKept.run_setObj_map _ J]
  ·rename_i z hk hz hf;cases h;obtain⟨q,C⟩:=kp hk M hf;obtain⟨zv,a7,O⟩:=vn hz;rcases C with⟨_,e2⟩|⟨D,E,A2,e1,_⟩
   ·obtain⟨w',rfl,U,I⟩:=tW Y (es':=es++[(vk,z)]) (a':=a.push {key:=vk,val:=zv,born:=a.size}) hH hp J (fun w' mu' j=>by
     have:=RvM.snoc (k:=vk) (O w' mu' π) es a.toList 0 (RvM.of j 0 es _ M);rw[Nat.zero_add,<-T]at this;simpa using this)
    refine⟨.value (.tuple #[zv,goInt ((es.length:Nat):Int)]),_,_,π,?_,.inl rfl,U,I,yD (O _ _ _),fun _ _=>rfl⟩;simp only[Instr.mapEntry,Sem.run_bind,run_underlying hu,Result.andThen_ok,Go.MapKept.run_getObj_map J,q,e2,a7];simp[Go.MapKept.run_setObj_map _ J,T]
   ·cases e1
  ·cases h
 ·cases h
theorem xJ{k:IntKind}{n:Int}:(asInt (.int k n)).run P w=.ok n w:=by simp[asInt,asIntOf]
theorem RvM.born{mu:Nat->Prop}:∀(es:List (Value×AV)) (l:List MapEntry) (j i:Nat),RvM w mu π j es l->i<es.length->l.findIdx? (fun e=>(e.born:Int)==((j+i:Nat):Int))=some i
 |[],_,_,i,_,hi=>by simp at hi
 |(k',z)::es,_,j,i,h,hi=>by
  obtain⟨e,p,rfl,h2,m,C,q⟩:=h;rw[List.findIdx?_cons];cases i with
  |zero=>simp[m]
  |succ i=>
   have:=RvM.born es p (j+1) i q (by simpa using hi);rw[show j+1+i=j+(i+1)by omega]at this;rw[this];have:((e.born:Int)==((j+(i+1):Nat):Int))=false:=by rw[m];simp;omega
   rw[this];rfl
theorem si(T:Inv out B w π H){t:TypeId}{m s x:AV}{U vs q:Value}{r:bj}(hm:Rv w (aI out π H) π m U)(hs:Rv w (aI out π H) π s vs)(hx:Rv w (aI out π H) π x q)(h:jU H m s x=some r):
  bX P out B w π H (do Instr.entryStore t U vs q;pure .skip) r:=by
 unfold jU at h;split at h
 ·rename_i b es i C hi;obtain⟨hH,p,a,rfl,hp,D,E⟩:=lj T hm C;split at h
  ·rename_i k A Y I;cases h;have Y:0<=i:=by simpa using Y
   obtain⟨sk,rfl⟩:=iV hs hi;obtain⟨n,rfl⟩:∃n:Nat,i=n:=⟨i.toNat,by omega⟩;rw[Int.toNat_natCast]at I ⊢;obtain⟨en,g1,g2,g3,g4⟩:=RvM.get es a.toList 0 n k A E I;have J:n<es.length:=(List.getElem?_eq_some_iff.1 I).1;have M:=RvM.born es a.toList 0 n E J;have N:a.findIdx? (fun e=>(e.born:Int)==(n:Int))=some n:=by
    have e:a=a.toList.toArray:=rfl;rw[e,List.findIdx?_toArray];simpa using M
   have z:a.modify n (fun e=>{e with val:=q})=a.modify n fun e=>{e with key:=k,val:=q}:=by
    apply Array.ext (by simp);intro i h1 h2;rw[Array.getElem_modify,Array.getElem_modify];split
    ·rename_i hi;have:a[i]'(by simpa using h1)=en:=by
      have:a[i]?=some en:=by rw[<-hi,<-Array.getElem?_toList];exact g1
      exact(Array.getElem?_eq_some_iff.1 this).2
     rw[this,<-g2]
    ·rfl
   obtain⟨w',rfl,hE,O⟩:=tW T (es':=es.set n (k,x)) (a':=a.modify n fun e=>{e with key:=k,val:=q}) hH hp D (fun w' mu' j=>by
    rw[toList_modify];exact RvM.set (j _ _ hx) es a.toList 0 _ (RvM.of j 0 es _ E))
   refine⟨.skip,undef,_,π,?_,.inr ⟨rfl,rfl⟩,hE,O,trivial,fun _ _=>rfl⟩;simp only[Instr.entryStore,Sem.run_bind,Go.MapKept.run_getObj_map D,Result.andThen_ok,xJ,N,z];simp[Go.MapKept.run_setObj_map _ D]
  ·cases h
 ·cases h
theorem fr(m:Inv out B w π H){n:Nat}(z:n<=H.length)(p:Option PB)(x:Blk):∀j,(∀b,(j,b)∉[(n,x)])->(upd π n p)[j]?=π[j]?:=by
 intro j q;rw[eI (by have:=m.len;omega),if_neg];rintro rfl;exact q x (by simp)
theorem vI(p:Inv out B w π H){nid:Nat}(z:nid<=H.length)(E:∀q,π[nid]?≠some (some q)){t:TypeId}{r:Option AV}{j:Option Value}{x:bj}(C:match r,j with|none,none=>True|some r,some v=>Rv w (aI out π H) π r v|_,_=>False)(h:oF P nid t r=some x):
  bX P out B w π H (do pure (.value (<-Instr.makeMap t j))) x:=by
 have key:(Instr.makeMap t j).run P w=.ok (.map (some w.heap.size)) (w.alloc (.map #[] 0))/\x=.eff (.mp nid) [(nid,.map [])]:=by
  unfold oF at h;cases r with
  |none=>
   cases j with
   |none=>cases h;exact⟨by simp[Instr.makeMap],rfl⟩
   |some _=>exact C.elim
  |some r=>
   cases j with
   |none=>exact C.elim
   |some v=>
    simp only at h C;split at h
    ·rename_i q kt e hk hu;cases h;have:=qu C hk;subst this;exact⟨by simp[Instr.makeMap,run_underlying hu,asInt,asIntOf],rfl⟩
    ·cases h
 obtain⟨m,rfl⟩:=key;have I:=oz p (.map #[] 0) (.map []) ⟨w.heap.size,0,0,fun _=>none⟩ rfl z E;have D:=p.alloc (.map #[] 0) (.map []) ⟨w.heap.size,0,0,fun _=>none⟩ rfl z E ⟨#[],by show(w.heap.push _)[w.heap.size]?=_;simp,rfl⟩;refine⟨_,.map (some w.heap.size),_,_,by simp[m],.inl rfl,I,D,⟨_,gl p z _,rfl⟩,fr p z _ _⟩
theorem GO{mu:Nat->Prop}(k:Value):Rv w mu π (IH k) k:=by
 cases k<;>first|exact⟨_,rfl,ff _⟩|exact rfl
theorem xO(j:Inv out B w π H){nid:Nat}(z:nid<=H.length)(C:∀q,π[nid]?≠some (some q)){t:TypeId}{m:AV}{J:Value}{x:bj}(hm:Rv w (aI out π H) π m J)(h:kH P H nid t m=some x):
  bX P out B w π H (do pure (.value (<-Instr.range t J))) x:=by
 unfold kH at h;split at h
 ·rename_i kt e b es hu D;cases h;obtain⟨hH,p,a,rfl,hp,M,N⟩:=lj j hm D;have O:a.size=es.length:=by have:=RvM.len es a.toList 0 N;simpa using this
  have E:b≠nid:=fun e=>C p (by rw[<-e];exact hp)
  have T:p.blk<w.heap.size:=(j.base b _ p hH hp rfl).2;have U:=oz j (.mapIter (some p.blk) a.size #[] a.size) (.iter b es.length []) ⟨w.heap.size,0,0,fun _=>none⟩ rfl z C;have I:=j.alloc (.mapIter (some p.blk) a.size #[] a.size) (.iter b es.length []) ⟨w.heap.size,0,0,fun _=>none⟩ rfl z C ⟨rfl,p,by rw[eI (by have:=j.len;omega),if_neg E];exact hp,by show(w.heap.push _)[w.heap.size]?=_;rw[<-O];simp⟩;refine⟨_,.pointer (some ⟨w.heap.size,0,none⟩),_,_,?_,.inl rfl,U,I,⟨_,gl j z _,rfl⟩,fr j z _ _⟩;simp only[Instr.range,Sem.run_bind,run_underlying hu,Result.andThen_ok,Go.MapKept.run_getObj_map M,Sem.run_pure];rfl
 ·cases h
theorem tG(hI:Inv out B w π H){x:AV}{v:Value}{r:bj}(hx:Rv w (aI out π H) π x v)(h:gr H x=some r):bX P out B w π H (do pure (.value (<-Instr.entry v))) r:=by
 unfold gr at h;split at h
 ·rename_i m n seen z;unfold qe at z;split at z
  ·rename_i j;split at z
   ·rename_i m' n' M N;cases z;obtain⟨p,hp,rfl⟩:=hx;obtain⟨ho,q,hq,hh⟩:=hI.ok j _ p N hp;split at h
    ·rename_i es O;obtain⟨a,ha,T⟩:=hI.ok m _ q O hq;have hl:a.size=es.length:=by have:=RvM.len es a.toList 0 T;simpa using this
     split at h
     ·rename_i i U C;split at h
      ·rename_i k A hi;cases h;have U:es.length=n:=dcT U;obtain⟨J,g1,g2,g3,g4⟩:=RvM.get es a.toList 0 i k A T hi;have D:seen.toArray.back?=some i:=by rw[<-C];simp[Array.back?,List.getLast?_eq_getElem?]
       have E:a.find? (fun e=>e.born==i)=some J:=by
        have Y:i<es.length:=(List.getElem?_eq_some_iff.1 hi).1;have a1:=RvM.born es a.toList 0 i T Y;rw[<-Array.find?_toList];have a6:a.toList.findIdx? (fun e=>e.born==i)=some i:=by
         rw[<-a1];congr 1;funext e;rw[Nat.zero_add,Bool.eq_iff_iff,beq_iff_eq,beq_iff_eq];omega
        rw[List.find?_eq_some_iff_getElem];have h3:=List.findIdx?_eq_some_iff_getElem.1 a6;obtain⟨h4,h5,h6⟩:=h3;have he:a.toList[i]=J:=(List.getElem?_eq_some_iff.1 g1).2;refine⟨by rw[<-he];exact h5,i,h4,he,fun j N=>by simpa using h6 j N⟩
       have I:(Instr.entry (.pointer (some ⟨p.blk,p.off+0,none⟩))).run P w=.ok (.tuple #[J.key,J.val]) w:=by
        rw[Nat.add_zero,ho];simp only[Instr.entry,getObj,Sem.run_bind,Sem.run,hh,ha,Result.andThen,D,hl,U,bne_self_eq_false,Bool.false_eq_true,if_false,E];rfl
       exact bX.value I ⟨_,rfl,_,_,rfl,by rw[g2];exact GO k,_,_,rfl,g4,rfl⟩
      ·cases h
     ·cases h
    ·cases h
   ·cases z
  ·cases z
 ·cases h
end
end Go.Eng


namespace Go.Eng
open Go Go.RowKit
variable[Dr]
section
variable{P:Program}{out:Nat->Prop}{B:Nat->Prop}{w:World}{π:List (Option PB)}{H:List Blk}
theorem Inv.same{w':World}(j:Inv out B w π H)(m:w'.heap=w.heap)(z:w'.os=w.os)(C:w'.tape=w.tape)(hu:w'.output=w.output)(D:Dr.d=true->w.drawn<=w'.drawn):
  Ext B w w' (aI out π H) (aI out π H) π π/\Inv out B w' π H:=by
 have q:Ext B w w' (aI out π H) (aI out π H) π π:=⟨fun _ _=>by rw[m],by rw[m];exact Nat.le_refl _,fun b _ h=>⟨by rw[m],h⟩,fun _ _ h=>h,z,C,hu,D⟩;exact⟨q,j.len,by rw[m];exact j.bound,j.out_lt,by rw[m];exact j.baseO,fun i x p h1 h2=>dy.ext q (fun _ _=>by rw[m]) (j.ok i x p h1 h2),j.sepO⟩
theorem AA(m:Inv out B w π H){nid:Nat}(p:nid<=H.length)(E:∀q,π[nid]?≠some (some q)){t:TypeId}{z:List AV}(I:jP P t=some z)(h1:z.all fq=true):
  bX P out B w π H (do pure (.value (<-Instr.alloc t true (.tuple #[])))) (.eff (.hp nid 0) [(nid,.own z)]):=by
 obtain⟨D,_,hi,J,j,rfl⟩:=nE I w;obtain⟨M,C⟩:=lk m p E (D.cells.toList.map .at) D.cells t (ff _) (all_zero h1);refine⟨_,.pointer (some ⟨w.heap.size,0,none⟩),_,_,by simp[Instr.alloc,j,newVar,newRow],.inl rfl,M,C,⟨_,gl m p _,rfl⟩,fr m p _ _⟩
theorem DS(j:Inv out B w π H){nid:Nat}(m:nid<=H.length)(z:∀q,π[nid]?≠some (some q)){t:TypeId}{x:AV}{v:Value}(C:Rv w (aI out π H) π x v)(h1:(cellsOf x).all fq=true):
  bX P out B w π H (do pure (.value (<-Instr.box t v))) (.eff (.hp nid 0) [(nid,.own (cellsOf x))]):=by
 obtain⟨g1,g2⟩:=kG C h1;obtain⟨D,p⟩:=lk j m z (cellsOf x) v.cells t g1 g2;exact⟨_,.pointer (some ⟨w.heap.size,0,none⟩),_,_,by simp[Instr.box,newVar,newRow],.inl rfl,D,p,⟨_,gl j m _,rfl⟩,fr j m _ _⟩
def Jy(w:World)(mu:Nat->Prop)(π:List (Option PB))(ρ:Operand->AV)(ρc:Operand->Value)(l:List (Nat×Operand)):Prop:=
 RvL w mu π ((l.map fun p=>(p.1,ρ p.2)).map (·.2)) ((l.map fun p=>(p.1,ρc p.2)).map (·.2))
theorem qC{ρ:Operand->AV}{ρc:Operand->Value}{mu:Nat->Prop}(hρ:∀x,Rv w mu π (ρ x) (ρc x)):∀l:List (Nat×Operand),Jy w mu π ρ ρc l
 |[]=>rfl
 |(_,x)::l=>⟨_,_,rfl,hρ x,qC hρ l⟩
theorem ti{ρ:Operand->AV}{ρc:Operand->Value}{mu:Nat->Prop}(hρ:∀x,Rv w mu π (ρ x) (ρc x)):∀l:List Operand,RvL w mu π (l.map ρ) (l.map ρc)
 |[]=>rfl
 |x::l=>⟨_,_,rfl,hρ x,ti hρ l⟩
theorem qw{t:TypeId}{z:List AV}(h:jP P t=some z):∃j:Value,(∀w,(zeroValue t).run P w=.ok j w)/\z=j.cells.toList.map .at:=by
 unfold jP at h;split at h
 ·rename_i i hi;split at h
  ·rename_i j m;cases h;exact⟨j,fun w=>by simp[zeroValue,typeInfo,hi,m],rfl⟩
  ·cases h
 ·cases h
theorem uZ(O:Inv out B w π H){nid:Nat}(j:nid<=H.length)(T:∀q,π[nid]?≠some (some q)){ρ:Operand->AV}{ρc:Operand->Value}(hρ:∀x,Rv w (aI out π H) π (ρ x) (ρc x)){t e:TypeId}{len n:Nat}{z cs:List AV}{parts:Array (Nat×Operand)}
  (hu:P.underlying t=some (.slice e)) (hn:eG P e=some n) (hz:jP P e=some z) (h1:len*n<=16777216) (h2:z.length=n) (h3:z.all fq=true)
  (hf:rI (fun i=>some (i*n,n)) (dm z len) (parts.toList.map fun p=>(p.1,ρ p.2))=some cs):
  bX P out B w π H (do pure (.value (<-Instr.buildSlice t len (parts.map fun(i,x)=>(i,ρc x))))) (.eff (.hs nid 0 len n) [(nid,.own cs)]):=by
 obtain⟨D,U,rfl⟩:=qw hz;have Y:D.cells.size=n:=by simpa using h2
 have a6:=all_zero h3;have m:∀z0:Array Value,(if len*n=0 then z0=#[]else z0=D.cells)->((Array.range (len*n)).map (z0[·%z0.size]!)).toList=(List.replicate len D.cells.toList).flatten:=by
  intro z0 M;by_cases E:len*n=0
  ·rw[if_pos E]at M;subst M;rw[E];rcases Nat.mul_eq_zero.1 E with e0|e0
   ·simp[e0]
   ·have:D.cells=#[]:=by rw[<-Array.size_eq_zero_iff];omega
    simp[this]
  ·rw[if_neg E]at M;subst M;have a1:0<D.cells.size:=by
    rw[Y];exact Nat.pos_of_ne_zero fun e0=>E (by rw[e0];simp)
   have:=jY D.cells len a1;rw[Y]at this;simpa [madeCells]using this
 have J:(parts.map fun p:Nat×Operand=>(p.1,ρc p.2)).toList=parts.toList.map fun p=>(p.1,ρc p.2):=by simp
 have fin:∀z0:Array Value,((Array.range (len*n)).map (z0[·%z0.size]!)).toList=(List.replicate len D.cells.toList).flatten->
   ∃I,Instr.fill (fun i=>some (i*n,n)) ((Array.range (len*n)).map (z0[·%z0.size]!)) (parts.map fun p:Nat×Operand=>(p.1,ρc p.2)).toList=some I/\RvL w (aI out π H) π cs I.toList/\(∀v∈I.toList,v.oneCell'=true)/\I.size=len*n:=by
  intro z0 M;obtain⟨I,r1,r2,r3,r4⟩:=nm (w:=w) (π:=π) (mu:=aI out π H) (place:=fun i=>some (i*n,n)) (parts.toList.map fun p=>(p.1,ρ p.2)) (parts.toList.map fun p=>(p.1,ρc p.2)) (dm (D.cells.toList.map .at) len)
   ((Array.range (len*n)).map (z0[·%z0.size]!)) cs (by simp) (qC hρ _) (by rw[M];exact ri _ _) (by rw[M];exact jB a6 _) hf
  exact⟨I,by rw[J];exact r1,r2,r4,by rw[r3];simp⟩
 have hle:¬16777216<len*n:=by omega
 by_cases E:len*n=0
 ·obtain⟨I,r1,r2,r3,r4⟩:=fin #[] (m #[] (by rw[if_pos E]));obtain⟨hE,N⟩:=lk O j T cs I e r2 r3;refine⟨_,.slice (some ⟨w.heap.size,0,none⟩) len len,_,_,?_,.inl rfl,hE,N,.inr ⟨_,_,_,gl O j _,rfl,Nat.le_refl _,rfl,fun _=>⟨rfl,?_⟩⟩,fr O j _ _⟩
  ·have C:¬len*n>2^24:=by simpa using hle
   simp only[Instr.buildSlice,Sem.run_bind,run_underlying hu,Result.andThen_ok,bt hn,Sem.run_ite,if_neg C,if_pos E,Sem.run_pure];rw[r1];rfl
  ·simp[r4]
 ·obtain⟨I,r1,r2,r3,r4⟩:=fin D.cells (m D.cells (by rw[if_neg E]));obtain⟨hE,N⟩:=lk O j T cs I e r2 r3;refine⟨_,.slice (some ⟨w.heap.size,0,none⟩) len len,_,_,?_,.inl rfl,hE,N,.inr ⟨_,_,_,gl O j _,rfl,Nat.le_refl _,rfl,fun _=>⟨rfl,?_⟩⟩,fr O j _ _⟩
  ·have C:¬len*n>2^24:=by simpa using hle
   simp only[Instr.buildSlice,Sem.run_bind,run_underlying hu,Result.andThen_ok,bt hn,Sem.run_ite,if_neg C,if_neg E,U,Sem.run_pure];rw[r1];rfl
  ·simp[r4]
theorem sK{mu:Nat->Prop}{ρ:Operand->AV}{ρc:Operand->Value}(hρ:∀x,Rv w mu π (ρ x) (ρc x)){t:TypeId}{C:Array Field}{z cs:List AV}{pl:List (Nat×Nat)}{parts:Array (Nat×Operand)}
  (hu:P.underlying t=some (.struct C)) (J:jP P t=some z) (hp:qQ P C.toList=some pl) (h1:z.all fq=true) (M:rI (fun i=>pl[i]?) z (parts.toList.map fun p=>(p.1,ρ p.2))=some cs):
  ∃u,(Instr.build t (parts.map fun(i,x)=>(i,ρc x))).run P w=.ok u w/\Rv w mu π (.agg cs) u:=by
 obtain⟨E,q,rfl⟩:=qw J;obtain⟨I,r1,r2,r3,r4⟩:=nm (w:=w) (π:=π) (mu:=mu) (place:=fun i=>pl[i]?) (parts.toList.map fun p:Nat×Operand=>(p.1,ρ p.2)) (parts.toList.map fun p:Nat×Operand=>(p.1,ρc p.2)) (E.cells.toList.map .at) E.cells cs (by simp) (qC hρ parts.toList) (ff _) (all_zero h1) M;have j:(parts.map fun p:Nat×Operand=>(p.1,ρc p.2)).toList=parts.toList.map fun p=>(p.1,ρc p.2):=by simp
 refine⟨.agg I,?_,I,rfl,r2⟩;have D:(C.mapM (m:=Sem) fun f=>do pure (f.offset,<-sizeOf f.type)).run P w=.ok pl.toArray w:=by
  rw[Array.mapM_eq_mapM_toList];have:=rA (P:=P) w C.toList pl hp;simp only[Sem.run_map,this,Result.andThen_ok]
 simp only[Instr.build,Sem.run_bind,q,Result.andThen_ok,run_underlying hu,D,j];have e:(fun x:Nat=>pl.toArray[x]?)=(fun i:Nat=>pl[i]?):=by funext i;simp
 simp only[e,r1];rfl
theorem tj{mu:Nat->Prop}{ρ:Operand->AV}{ρc:Operand->Value}(hρ:∀x,Rv w mu π (ρ x) (ρc x)){t e:TypeId}{len n:Nat}{z cs:List AV}{parts:Array (Nat×Operand)}
  (hu:P.underlying t=some (.array len e)) (D:jP P t=some z) (E:eG P e=some n) (h1:z.all fq=true) (I:rI (fun i=>some (i*n,n)) z (parts.toList.map fun p=>(p.1,ρ p.2))=some cs):
  ∃u,(Instr.build t (parts.map fun(i,x)=>(i,ρc x))).run P w=.ok u w/\Rv w mu π (.agg cs) u:=by
 obtain⟨q,m,rfl⟩:=qw D;obtain⟨C,r1,r2,r3,r4⟩:=nm (w:=w) (π:=π) (mu:=mu) (place:=fun i=>some (i*n,n)) (parts.toList.map fun p:Nat×Operand=>(p.1,ρ p.2)) (parts.toList.map fun p:Nat×Operand=>(p.1,ρc p.2)) (q.cells.toList.map .at) q.cells cs (by simp) (qC hρ parts.toList) (ff _) (all_zero h1) I;have j:(parts.map fun p:Nat×Operand=>(p.1,ρc p.2)).toList=parts.toList.map fun p=>(p.1,ρc p.2):=by simp
 refine⟨.agg C,?_,C,rfl,r2⟩;simp only[Instr.build,Sem.run_bind,m,Result.andThen_ok,run_underlying hu,bt E,j];rw[r1];rfl
theorem vH(C:Inv out B w π H){nid:Nat}(j:nid<=H.length)(D:∀q,π[nid]?≠some (some q)){t e:TypeId}{Y kc:IntKind}{l c:Int}{n by_:Nat}{z:List AV}(hu:P.underlying t=some (.slice e))(hn:eG P e=some n)(hb:mz P e=some by_)(hz:jP P e=some z)
  (h0:0<=l) (E:l<=c) (I:(by_:Int)*c<=281474976710656) (J:c<=9223372036854775807) (M:z.length=n) (a6:0<n) (h3:z.all fq=true):
  bX P out B w π H (do pure (.value (<-Instr.makeSlice t (.int Y l) (.int kc c)))) (.eff (.hs nid 0 l.toNat n) [(nid,.own (dm z c.toNat))]):=by
 obtain⟨m,i,hi,N,a1,rfl⟩:=nE hz w;have p:i.size=n:=by simpa [eG,hi]using hn
 have O:i.bytes=by_:=by simpa [mz,hi]using hb
 have T:m.cells.size=n:=by simpa using M
 have hm:=run_make (P:=P) w t e i m hu hi N Y kc l c h0 E (by rw[O];exact I) J;have he:(madeCells m.cells (c.toNat*i.size)).toList=(List.replicate c.toNat m.cells.toList).flatten:=by
  rw[p,<-T];exact jY m.cells c.toNat (by omega)
 obtain⟨hE,U⟩:=lk C j D (dm (m.cells.toList.map .at) c.toNat) (madeCells m.cells (c.toNat*i.size)) e (by rw[he];exact ri _ _) (by rw[he];exact jB (all_zero h3) _);exact⟨_,.slice (some ⟨w.heap.size,0,none⟩) l.toNat c.toNat,_,_,by simp[hm],.inl rfl,hE,U,.inr ⟨_,_,_,gl C j _,rfl,by omega,rfl,fun _=>⟨rfl,by simp[size_madeCells,p]⟩⟩,fr C j _ _⟩
end
section
variable{P:Program}{out:Nat->Prop}{B:Nat->Prop}{w:World}{π:List (Option PB)}{H:List Blk}
theorem kx(N:Inv out B w π H){n:Nat}{x:AV}{v:Value}{cs:List AV}{m:Nat}(E:Rv w (aI out π H) π x v)(h:gC H n x=some (cs,m)):
  ∃a cap,v=.slice a m cap/\(a=none->m=0)/\m<=cap/\∃vs:List Value,vs.length=m*n/\RvL w (aI out π H) π cs vs/\(∀u∈vs,u.oneCell'=true)/\(∀b,a=some b->∀j u,vs[j]?=some u->w.cell? (b.add j)=some u):=by
 unfold gC at h;split at h
 ·cases h;cases E;exact⟨none,0,rfl,fun _=>rfl,Nat.le_refl _,[],by simp,rfl,by simp,fun b q=>by cases q⟩
 ·rename_i nl c len;split at h
  ·rename_i J;simp only[decide_eq_true_eq]at J;cases h;rcases E with⟨_,rfl,rfl,rfl⟩|⟨b,o,cap,rfl,h2,M,O⟩|⟨rfl,rfl,a,cap,rfl⟩
   rotate_left 2
   ·exact⟨some a,cap,rfl,fun _=>rfl,Nat.zero_le _,[],by simp,rfl,by simp,fun b q j u D=>by simp at D⟩
   ·exact⟨none,0,rfl,fun _=>rfl,Nat.le_refl _,[],by simp,rfl,by simp,fun b q=>by cases q⟩
   ·obtain⟨vs,g1,g2,g3,g4⟩:=ow O.lift (Nat.le_refl _);rw[List.take_length]at g2;exact⟨_,cap,rfl,(fun e=>by cases e),h2,vs,by rw[g1];exact J,g2,g3,fun U I=>by cases I;exact g4⟩
  ·cases h
 ·rename_i i off len es;rcases E with⟨rfl,rfl⟩|⟨p,a,cap,h1,rfl,h2,T,M⟩
  ·have:cs=[]/\m=0:=by
    split at h
    ·split at h
     ·cases h;simp
     ·cases h
    ·split at h
     ·cases h;simp
     ·cases h
    ·cases h
   obtain⟨rfl,rfl⟩:=this;exact⟨none,0,rfl,fun _=>rfl,Nat.le_refl _,[],by simp,rfl,by simp,fun b q=>by cases q⟩
  have key:∀c:List AV,(H[i]?=some (.own c)\/H[i]?=some (.fix c))->off+len*n<=c.length->cs=(c.drop off).take (len*n)->m=len->
    ∃a' z,Value.slice (some a) len cap=.slice a' m z/\(a'=none->m=0)/\m<=z/\∃vs:List Value,vs.length=m*n/\RvL w (aI out π H) π cs vs/\(∀u∈vs,u.oneCell'=true)/\(∀b,a'=some b->∀j u,vs[j]?=some u->w.cell? (b.add j)=some u):=by
   intro c hc hle e1 e2;subst e1;subst e2;obtain⟨vs,g1,g2,g3,g4⟩:=ow (n:=m*n) (RvC.drop off c _ _ (eU N hc h1)) (by simp;omega);refine⟨_,cap,rfl,(fun e=>by cases e),h2,vs,g1,g2,g3,fun b q=>?_⟩;cases q;intro j u D;by_cases C:0<cap
   ·rw[(M C).1];exact g4 j u D
   ·have : vs.length = 0 := by rw[g1];have:m=0:=by omega
                               simp[this]
    rw[List.length_eq_zero_iff]at this;subst this;simp at D
  split at h
  ·rename_i c hc;split at h
   ·rename_i hle;cases h;exact key c (.inl hc) (by simpa using hle) rfl rfl
   ·cases h
  ·rename_i c hc;split at h
   ·rename_i hle;cases h;exact key c (.inr hc) (by simpa using hle) rfl rfl
   ·cases h
  ·cases h
 ·cases h
theorem dD{n m cap:Nat}{a:Option Addr}{vs:List Value}(w:World)(p:vs.length=m*n)(q:a=none->m=0)(h:∀b,a=some b->∀j u,vs[j]?=some u->w.cell? (b.add j)=some u):
  (Builtin.firstCells n m (.slice a m cap)).run P w=.ok vs.toArray w:=by
 cases a with
 |none=>
  have:vs=[]:=by rw[<-List.length_eq_zero_iff,p,q rfl];simp
  subst this;rfl
 |some b=>exact run_firstCells_some w n m b m cap vs p (h b rfl)
theorem D6(hI:Inv out B w π H){nid:Nat}(I:nid<=H.length)(b7:∀q,π[nid]?≠some (some q)){t t' e e' ty:TypeId}{n by_:Nat}{z:List AV}{i' off len C es:Nat}{x:AV}{vs vx:Value}{r:bj}(ht:P.underlying t=some (.slice e))(a8:P.underlying t'=some (.slice e'))
  (hn:eG P e=some n) (hb:mz P e=some by_) (hz:jP P e=some z) (b8:z.length=n) (hs:Rv w (aI out π H) π (.hc i' off len C es) vs) (hx:Rv w (aI out π H) π x vx) (h:iM H nid n by_ (.hc i' off len C es) x=some r):
  bX P out B w π H (do pure (.value (<-Builtin.append_ #[t,t'] ty #[vs,vx]))) r:=by
 obtain⟨zv,i,hi,b9,e6,rfl⟩:=nE hz w;have c0:i.size=n:=by simpa [eG,hi]using hn
 have c3:i.bytes=by_:=by simpa [mz,hi]using hb
 unfold iM at h;split at h
 ·cases h
 ·rename_i new m hc;obtain⟨a,cap,rfl,h0,h1,us,J,M,N,O⟩:=kx hI hx hc;have c4:=dD (P:=P) (cap:=cap) w J h0 O;have c5:=dD (P:=P) (cap:=cap) w.drew J h0 (by simpa using O);obtain⟨m,rfl⟩:∃m',m=m'+1:=by
   cases m with
   |zero=>simp at h;split at h<;>cases h
   |succ m=>exact⟨m,rfl⟩
  change us.length=(m+1)*n at J;simp only at h;split at h
  ·rename_i cs hH;split at h
   ·rename_i T;simp only[Bool.and_eq_true,decide_eq_true_eq]at T;obtain⟨⟨⟨⟨⟨⟨rfl,k0⟩,k1⟩,rfl⟩,k2⟩,k3⟩,k4⟩:=T;simp only[Rv,Nat.add_zero]at hs;obtain⟨p,ad,a1,rfl,h2,e8,h3⟩:=hs;obtain⟨⟨c,te,E,c6⟩,hC⟩:=hI.ok i' _ p hH a1;have b0:zv.cells.size=es:=by simpa using b8
    obtain⟨os,o1,o2,o3,o4⟩:=ow (n:=len*es) hC k2;split at h
    ·
     rename_i D;have D:len+(m+1)<=C:=by simpa using D
     cases h;obtain⟨rfl,h6⟩:=h3 (by omega);have hK:p.off+len*es+us.length<=c.size:=by
      rw[J,c6];have:len*es+(m+1)*es<=C*es:=by rw[<-Nat.add_mul];exact Nat.mul_le_mul_right _ D
      omega
     have b1:=run_storeCells_at P p.blk (p.off+len*es) te us 0 c w E (by simpa using hK) N;simp only[Nat.add_zero]at b1;have a6:(Builtin.append_ #[t,t'] ty #[.slice (some ⟨p.blk,p.off,none⟩) len C,.slice a (m+1) cap]).run P w=
       .ok (.slice (some ⟨p.blk,p.off,none⟩) (len+(m+1)) C) (w.setRow p.blk (c.toList.take (p.off+len*es)++us++c.toList.drop (p.off+len*es+us.length)).toArray):=by
      simp[Builtin.append_,run_underlying ht,run_underlying a8,bt hn,Builtin.lenOf,D,c4,dW,b1]
     obtain⟨hE,U⟩:=Inv.pv hI hH a1 rfl (.own (cs.take (len*es)++new)) (w':=w.setRow p.blk (c.toList.take (p.off+len*es)++us++c.toList.drop (p.off+len*es+us.length)).toArray)
      (by simp) (fun b hb=>by simp only[World.setRow,Array.getElem?_modify];rw[if_neg (by omega)]) rfl rfl rfl (fun _=>Nat.le_refl _) (fun hE=>by
       refine⟨⟨_,te,setRow_heap w _ c _ te _ E,?_⟩,?_⟩
       ·simp;omega
       ·refine gV _ (os++us) _ _ (RvL.append _ _ _ _ (RvL.ext hE _ _ o2) (RvL.ext hE _ _ M)) ?_ ?_
        ·intro u hu;rcases List.mem_append.1 hu with hu|hu
         ·exact o3 u hu
         ·exact N u hu
        ·intro j u Y;simp only[World.cell?,setRow_heap w _ c _ te _ E];simp only[Option.isSome_none,Bool.false_eq_true,if_false,List.getElem?_toArray];have a7:(c.toList.take (p.off+len*es)).length=p.off+len*es:=by simp;omega
         rw[List.append_assoc];by_cases c7:j<os.length
         ·rw[List.getElem?_append_left c7]at Y;rw[List.getElem?_append_left (by rw[a7];omega),List.getElem?_take,if_pos (by omega)];have:=o4 j u Y;rw[dW]at this;simp only[World.cell?,E]at this;simpa using this
         ·rw[List.getElem?_append_right (by omega)]at Y;rw[List.getElem?_append_right (by rw[a7];omega),a7,show p.off+j-(p.off+len*es)=j-os.length by omega];rw[List.getElem?_append_left (aK Y)];exact Y)
     have b3:aN H [(i',.own (cs.take (len*es)++new))]=H.set i' (.own (cs.take (len*es)++new)):=by simp[aN,upd,aK hH]
     rw[<-b3]at hE U;exact⟨_,.slice (some ⟨p.blk,p.off,none⟩) (len+(m+1)) C,_,_,by simp only[Sem.run_bind,a6,Result.andThen_ok];rfl,.inl rfl,hE,U,.inr ⟨p,_,_,a1,rfl,D,rfl,fun _=>⟨rfl,h6⟩⟩,fun j _=>rfl⟩
    ·
     rename_i D;have D:¬len+(m+1)<=C:=by simpa using D
     cases h;have e7:=growslice_fits (need:=len+(m+1)) (old:=C) (bytes:=by_) (by omega) k3;have g1:¬9223372036854775807<((len:Int)+((m:Int)+1)):=by omega
     have g2:¬281474976710656<Builtin.nextslicecap (len+(m+1)) C*by_:=by omega
     obtain⟨b4,c8⟩:=hI.same (w':=w.drew) rfl rfl rfl rfl (fun _=>Nat.le_succ _);have hlen:=RvL.length _ _ M;have c9:=dD (P:=P) (cap:=C) (a:=some ad) w.drew o1 (fun e=>by cases e) (fun b' e3 j u Y=>by
       cases e3;by_cases b5:0<C
       ·rw[(h3 b5).1];simpa using o4 j u Y
       ·have h0:len=0:=by omega
        have:os=[]:=by rw[<-List.length_eq_zero_iff,o1,h0,Nat.zero_mul]
        subst this;simp at Y)
     have e4:=RvL.length _ _ o2;have b6:(os.toArray++us.toArray++Builtin.zeroCells zv.cells (grownCap w (len+(m+1)) C e-(len+(m+1)))).toList.take (cs.take (len*es)++new).length=os++us:=by
      simp only[Array.toList_append,List.length_append];rw[<-e4,<-hlen,<-List.length_append,List.take_left]
     obtain⟨hE,U⟩:=qU c8 I b7 (cs.take (len*es)++new) (os.toArray++us.toArray++Builtin.zeroCells zv.cells (grownCap w (len+(m+1)) C e-(len+(m+1)))) e
      (by rw[b6];exact RvL.ext b4 _ _ (RvL.append _ _ _ _ o2 M)) (by
       rw[b6];intro u hu;rcases List.mem_append.1 hu with hu|hu
       ·exact o3 u hu
       ·exact N u hu)
     have e5:len+(m+1)<=grownCap w (len+(m+1)) C e:=by simp[grownCap,Question.cut]
     have e0:(grownCap w (len+(m+1)) C e-(len+(m+1)))*es+(len*es+(m+1)*es)=grownCap w (len+(m+1)) C e*es:=by
      rw[<-Nat.add_mul,<-Nat.add_mul];congr 1;omega
     refine⟨_,.slice (some ⟨w.heap.size,0,none⟩) (len+(m+1)) (grownCap w (len+(m+1)) C e),_,_,?_,.inl rfl,b4.trans hE,U,.inr ⟨_,_,_,gl hI I _,rfl,e5,rfl,fun _=>⟨rfl,?_⟩⟩,fr hI I _ _⟩
     ·simp[Builtin.append_,run_underlying ht,run_underlying a8,sizeOf,typeInfo,zeroValue,hi,b9,Builtin.lenOf,c0,c3,g1,g2,D,Question.forced,c9,c5,newRow,grownCap];congr 2;apply Array.ext';simp[List.append_assoc]
     ·simp only[Array.size_append,List.size_toArray,o1,J,size_zeroCells,b0];omega
   ·cases h
  ·cases h
theorem zm(T:Inv out B w π H){nid:Nat}(D:nid<=H.length)(b1:∀q,π[nid]?≠some (some q)){t t' e e' ty:TypeId}{n by_:Nat}{z:List AV}{s x:AV}{vs vx:Value}{r:bj}(ht:P.underlying t=some (.slice e))(b5:P.underlying t'=some (.slice e'))
  (hn:eG P e=some n) (hb:mz P e=some by_) (hz:jP P e=some z) (c7:z.length=n) (hs:Rv w (aI out π H) π s vs) (hx:Rv w (aI out π H) π x vx) (h:iM H nid n by_ s x=some r):
  bX P out B w π H (do pure (.value (<-Builtin.append_ #[t,t'] ty #[vs,vx]))) r:=by
 by_cases hq:∃i off len cap es,s=.hc i off len cap es
 ·obtain⟨_,_,_,_,_,rfl⟩:=hq;exact D6 T D b1 ht b5 hn hb hz c7 hs hx h
 obtain⟨zv,i,hi,c8,l3,rfl⟩:=nE hz w;have c9:i.size=n:=by simpa [eG,hi]using hn
 have e3:i.bytes=by_:=by simpa [mz,hi]using hb
 unfold iM at h;split at h
 ·cases h
 ·rename_i new m hc;obtain⟨a,cap,rfl,h0,h1,us,b8,U,a7,c4⟩:=kx T hx hc;have e4:=dD (P:=P) (cap:=cap) w b8 h0 c4;have c6:=dD (P:=P) (cap:=cap) w.drew b8 h0 (by simpa using c4);have nothing:m=0->us=[]/\new=[]:=by
   intro hm;have j5:us=[]:=by rw[<-List.length_eq_zero_iff,b8,hm];simp
   subst j5;have:=RvL.length _ _ U;exact⟨rfl,by rw[<-List.length_eq_zero_iff];simpa using this.symm⟩
  have fin:m=0->∀(b:Option Addr) (l c:Nat),l<=c->(Builtin.append_ #[t,t'] ty #[.slice b l c,.slice a m cap]).run P w=.ok (.slice b l c) w:=by
   intro hm b l c j6;obtain⟨rfl,_⟩:=nothing hm;subst hm;cases b with
   |none=>simp[Builtin.append_,run_underlying ht,run_underlying b5,bt hn,Builtin.lenOf,j6,e4]
   |some b=>simp[Builtin.append_,run_underlying ht,run_underlying b5,bt hn,Builtin.lenOf,j6,e4,storeCells]
  by_cases e5:m=0
  ·
   obtain⟨l4,h6⟩:=nothing e5;have b7:=fin e5;clear e4 c6 nothing fin b8 U a7 c4;split at h
   ·split at h
    ·cases h;cases hs;obtain⟨O,I⟩:=T.vK D b1 (.own new);refine⟨_,.slice none 0 0,w,upd π nid none,by simp only[Sem.run_bind,b7 none 0 0 (Nat.le_refl _),Result.andThen_ok];rfl,.inl rfl,O,I,.inl ⟨e5,rfl⟩,fr T D _ _⟩
    ·cases h
   ·split at h
    ·cases h;have h7:=hs;rcases hs with⟨rfl,rfl,rfl,rfl⟩|⟨b,o,c,rfl,g2,_⟩|⟨rfl,rfl,a,c,rfl⟩
     ·exact bX.value (b7 _ _ _ (Nat.le_refl _)) h7
     ·exact bX.value (b7 _ _ _ g2) h7
     ·exact bX.value (b7 _ _ _ (Nat.zero_le _)) h7
    ·cases h
   ·rename_i i' off len es;split at h
    ·rename_i cs hH;split at h
     ·rename_i E;simp only[Bool.and_eq_true,decide_eq_true_eq]at E;obtain⟨⟨⟨⟨rfl,k0⟩,k1⟩,k2⟩,k3⟩:=E;cases h;subst e5;subst h6;rcases hs with⟨rfl,rfl⟩|⟨p,b,C,b3,rfl,h2,h8,h3⟩
      ·obtain⟨a6,b6⟩:=T.kill i' (w':=w) rfl rfl rfl rfl (fun _=>Nat.le_refl _);obtain⟨O,I⟩:=b6.vK (by simpa using D) b1 (.own ((cs.drop off).take (0*es)++[]));have N:aN H [(i',.dead),(nid,.own ((cs.drop off).take (0*es)++[]))]=upd (H.set i' .dead) nid (.own ((cs.drop off).take (0*es)++[])):=by simp[aN,upd,aK hH]
       rw[<-N]at O I;exact⟨_,.slice none 0 0,w,upd π nid none,by simp only[Sem.run_bind,b7 none 0 0 (Nat.le_refl _),Result.andThen_ok];rfl,.inl rfl,a6.trans O,I,.inl ⟨rfl,rfl⟩,fun j M=>fr T D none (.own ((cs.drop off).take (0*es)++[])) j (fun b hb=>M b (by simp at hb ⊢;exact .inr hb))⟩
      ·obtain⟨⟨c,te,J,e9⟩,hC⟩:=T.ok i' _ p hH b3;obtain⟨O,I⟩:=T.grow hH b3 rfl (.own ((cs.drop off).take (len*es)++[])) ⟨p.blk,p.off+off,p.size,fun _=>none⟩ rfl D b1 (w':=w) rfl (fun _ _=>rfl) rfl rfl rfl (fun _=>Nat.le_refl _) (fun O=>by
        refine⟨⟨c,te,J,e9⟩,?_⟩;have k7:=RvC.ext O ((cs.drop off).take (len*es)) _ _ rfl (RvC.take (len*es) _ _ _ (RvC.drop off cs _ _ hC));simpa using k7)
       have N:aN H [(i',.dead),(nid,.own ((cs.drop off).take (len*es)++[]))]=upd (H.set i' .dead) nid (.own ((cs.drop off).take (len*es)++[])):=by simp[aN,upd,aK hH]
       rw[<-N]at O I;refine⟨_,.slice (some b) len C,w,_,by simp only[Sem.run_bind,b7 (some b) len C h2,Result.andThen_ok];rfl,.inl rfl,O,I,.inr ⟨⟨p.blk,p.off+off,p.size,fun _=>none⟩,b,C,gl T D _,rfl,by omega,h8,fun k8=>?_⟩,fun j M=>fr T D _ (.own ((cs.drop off).take (len*es)++[])) j (fun b hb=>M b (by simp at hb ⊢;exact .inr hb))⟩;obtain⟨e1,e2⟩:=h3 k8;exact⟨by rw[e1,Nat.add_zero],by simpa using e2⟩
     ·cases h
    ·split at h
     ·rename_i E;simp only[Bool.and_eq_true,decide_eq_true_eq]at E;omega
     ·cases h
    ·cases h
   ·exact(hq ⟨_,_,_,_,_,rfl⟩).elim
   ·cases h
  obtain⟨m,rfl⟩:∃m',m=m'+1:=⟨m-1,by omega⟩;clear fin nothing e5;change us.length=(m+1)*n at b8;split at h
  ·
   split at h
   ·rename_i E;simp only[Bool.and_eq_true,decide_eq_true_eq]at E;obtain⟨⟨k1,k2⟩,k3⟩:=E;cases h;cases hs;have a8:=growslice_fits (need:=m+1) (old:=0) (bytes:=by_) (by omega) k1;have g1:¬9223372036854775807<((m:Int)+1):=by omega
    have g2:¬281474976710656<Builtin.nextslicecap (m+1) 0*by_:=by omega
    obtain⟨a6,b6⟩:=T.same (w':=w.drew) rfl rfl rfl rfl (fun _=>Nat.le_succ _);have hlen:=RvL.length _ _ U;obtain⟨O,I⟩:=qU b6 D b1 new (us.toArray++Builtin.zeroCells zv.cells (grownCap w (m+1) 0 e-(m+1))) e (by
      have:(us.toArray++Builtin.zeroCells zv.cells (grownCap w (m+1) 0 e-(m+1))).toList.take new.length=us:=by simp[<-hlen]
      rw[this];exact RvL.ext a6 _ _ U) (by
      have:(us.toArray++Builtin.zeroCells zv.cells (grownCap w (m+1) 0 e-(m+1))).toList.take new.length=us:=by simp[<-hlen]
      rw[this];exact a7)
    have b9:m+1<=grownCap w (m+1) 0 e:=by simp[grownCap,Question.cut]
    have b0:zv.cells.size=n:=by simpa using c7
    have e0:(grownCap w (m+1) 0 e-(m+1))*n+(m+1)*n=grownCap w (m+1) 0 e*n:=by rw[<-Nat.add_mul];congr 1;omega
    refine⟨_,.slice (some ⟨w.heap.size,0,none⟩) (m+1) (grownCap w (m+1) 0 e),_,_,?_,.inl rfl,a6.trans O,I,.inr ⟨_,_,_,gl T D _,rfl,b9,rfl,fun _=>⟨rfl,?_⟩⟩,fr T D _ _⟩
    ·simp[Builtin.append_,run_underlying ht,run_underlying b5,sizeOf,typeInfo,zeroValue,hi,c8,Builtin.lenOf,c9,e3,g1,g2,Question.forced,run_firstCells_none,c6,newRow,grownCap]
    ·simp only[Array.size_append,List.size_toArray,b8,size_zeroCells,b0];omega
   ·cases h
  ·split at h
   ·rename_i h9;simp at h9
   ·cases h
  ·
   rename_i i' off len es;split at h
   ·rename_i cs hH;split at h
    ·rename_i E;simp only[Bool.and_eq_true,decide_eq_true_eq]at E;obtain⟨⟨⟨⟨rfl,k0⟩,k1⟩,k2⟩,k3⟩:=E;cases h;rcases hs with⟨rfl,rfl⟩|⟨p,b,C,b3,rfl,h2,h8,h3⟩
     ·
      have a8:=growslice_fits (need:=m+1) (old:=0) (bytes:=by_) (by omega) (by simpa using k2);have g1:¬9223372036854775807<((m:Int)+1):=by omega
      have g2:¬281474976710656<Builtin.nextslicecap (m+1) 0*by_:=by omega
      obtain⟨a6,b6⟩:=T.kill i' (w':=w.drew) rfl rfl rfl rfl (fun _=>Nat.le_succ _);have hlen:=RvL.length _ _ U;obtain⟨O,I⟩:=qU b6 (by simpa using D) b1 ((cs.drop off).take (0*es)++new) (us.toArray++Builtin.zeroCells zv.cells (grownCap w (m+1) 0 e-(m+1))) e (by
        have:(us.toArray++Builtin.zeroCells zv.cells (grownCap w (m+1) 0 e-(m+1))).toList.take ((cs.drop off).take (0*es)++new).length=us:=by simp[<-hlen]
        rw[this];simpa using RvL.ext a6 _ _ U) (by
        have:(us.toArray++Builtin.zeroCells zv.cells (grownCap w (m+1) 0 e-(m+1))).toList.take ((cs.drop off).take (0*es)++new).length=us:=by simp[<-hlen]
        rw[this];exact a7)
      have b9:m+1<=grownCap w (m+1) 0 e:=by simp[grownCap,Question.cut]
      have b0:zv.cells.size=es:=by simpa using c7
      have e0:(grownCap w (m+1) 0 e-(m+1))*es+(m+1)*es=grownCap w (m+1) 0 e*es:=by rw[<-Nat.add_mul];congr 1;omega
      have N:aN H [(i',.dead),(nid,.own ((cs.drop off).take (0*es)++new))]=aN (H.set i' .dead) [(nid,.own ((cs.drop off).take (0*es)++new))]:=by simp[aN,upd,aK hH]
      rw[<-N]at O I;refine⟨_,.slice (some ⟨w.heap.size,0,none⟩) (m+1) (grownCap w (m+1) 0 e),_,_,?_,.inl rfl,a6.trans O,I,.inr ⟨_,⟨w.heap.size,0,none⟩,grownCap w (m+1) 0 e,gl T D _,by rw[Nat.zero_add],by rw[Nat.zero_add];exact b9,rfl,fun _=>⟨rfl,?_⟩⟩,fun j M=>fr T D _ (.own ((cs.drop off).take (0*es)++new)) j (fun b hb=>M b (by simp at hb ⊢;exact .inr hb))⟩
      ·simp[Builtin.append_,run_underlying ht,run_underlying b5,sizeOf,typeInfo,zeroValue,hi,c8,Builtin.lenOf,c9,e3,g1,g2,Question.forced,run_firstCells_none,c6,newRow,grownCap]
      ·simp only[Array.size_append,List.size_toArray,b8,size_zeroCells,b0];omega
     obtain⟨⟨c,te,J,e9⟩,hC⟩:=T.ok i' _ p hH b3;have b0:zv.cells.size=es:=by simpa using c7
     obtain⟨os,o1,o2,o3,o4⟩:=ow (n:=len*es) (RvC.drop off cs _ _ hC) (by simp;omega);have b4:∀(w':World),(∀ad,w'.cell? ad=w.cell? ad)->∀b',some b=some b'->∀j u,os[j]?=some u->w'.cell? (b'.add j)=some u:=by
      intro w' j0 b' c3 j u M;cases c3;rw[j0];by_cases e6:0<C
      ·rw[(h3 e6).1];exact o4 j u M
      ·have:os.length=0:=by
        rw[o1];have:len=0:=by omega
        simp[this]
       rw[List.length_eq_zero_iff]at this;subst this;simp at M
     by_cases Y:len+(m+1)<=C
     ·
      obtain⟨c3,a8⟩:=h3 (by omega);subst c3;have hK:p.off+off+len*es+us.length<=c.size:=by
       rw[b8,e9];have:len*es+(m+1)*es<=C*es:=by rw[<-Nat.add_mul];exact Nat.mul_le_mul_right _ Y
       omega
      have e7:=run_storeCells_at P p.blk (p.off+off+len*es) te us 0 c w J (by simpa using hK) a7;simp only[Nat.add_zero]at e7;have c5:(Builtin.append_ #[t,t'] ty #[.slice (some ⟨p.blk,p.off+off,none⟩) len C,.slice a (m+1) cap]).run P w=
        .ok (.slice (some ⟨p.blk,p.off+off,none⟩) (len+(m+1)) C) (w.setRow p.blk (c.toList.take (p.off+off+len*es)++us++c.toList.drop (p.off+off+len*es+us.length)).toArray):=by
       simp[Builtin.append_,run_underlying ht,run_underlying b5,bt hn,Builtin.lenOf,Y,e4,dW,e7]
      obtain⟨O,I⟩:=T.grow hH b3 rfl (.own ((cs.drop off).take (len*es)++new)) ⟨p.blk,p.off+off,p.size,fun _=>none⟩ rfl D b1 (w':=w.setRow p.blk (c.toList.take (p.off+off+len*es)++us++c.toList.drop (p.off+off+len*es+us.length)).toArray)
       (by simp) (fun b hb=>by simp only[World.setRow,Array.getElem?_modify];rw[if_neg (by omega)]) rfl rfl rfl (fun _=>Nat.le_refl _) (fun O=>by
        refine⟨⟨_,te,setRow_heap w _ c _ te _ J,?_⟩,?_⟩
        ·simp;omega
        ·refine gV _ (os++us) _ _ (RvL.append _ _ _ _ (RvL.ext O _ _ o2) (RvL.ext O _ _ U)) ?_ ?_
         ·intro u hu;rcases List.mem_append.1 hu with hu|hu
          ·exact o3 u hu
          ·exact a7 u hu
         ·intro j u M;simp only[World.cell?,setRow_heap w _ c _ te _ J];simp only[Option.isSome_none,Bool.false_eq_true,if_false,List.getElem?_toArray];have c0:(c.toList.take (p.off+off+len*es)).length=p.off+off+len*es:=by simp;omega
          rw[List.append_assoc];by_cases h4:j<os.length
          ·rw[List.getElem?_append_left h4]at M;rw[List.getElem?_append_left (by rw[c0];omega),List.getElem?_take,if_pos (by omega)];have:=o4 j u M;rw[dW]at this;simp only[World.cell?,J]at this;simpa using this
          ·rw[List.getElem?_append_right (by omega)]at M;rw[List.getElem?_append_right (by rw[c0];omega),c0,show p.off+off+j-(p.off+off+len*es)=j-os.length by omega];rw[List.getElem?_append_left (aK M)];exact M)
      have N:aN H [(i',.dead),(nid,.own ((cs.drop off).take (len*es)++new))]=upd (H.set i' .dead) nid (.own ((cs.drop off).take (len*es)++new)):=by simp[aN,upd,aK hH]
      rw[<-N]at O I;refine⟨_,.slice (some ⟨p.blk,p.off+off,none⟩) (len+(m+1)) C,_,_,by simp only[Sem.run_bind,c5,Result.andThen_ok];rfl,.inl rfl,O,I,.inr ⟨_,_,_,gl T D _,rfl,Y,rfl,fun _=>⟨rfl,?_⟩⟩,fun j M=>fr T D _ (.own ((cs.drop off).take (len*es)++new)) j (fun b hb=>M b (by simp at hb ⊢;exact .inr hb))⟩;simpa using a8
     ·
      have a8:=growslice_fits (need:=len+(m+1)) (old:=C) (bytes:=by_) (by omega) k2;have g1:¬9223372036854775807<((len:Int)+((m:Int)+1)):=by omega
      have g2:¬281474976710656<Builtin.nextslicecap (len+(m+1)) C*by_:=by omega
      obtain⟨a6,b6⟩:=Inv.pv T hH b3 rfl .dead (w':=w.drew) rfl (fun _ _=>rfl) rfl rfl rfl (fun _=>Nat.le_succ _) (fun _=>trivial);have hlen:=RvL.length _ _ U;have j1:=dD (P:=P) (cap:=C) (a:=some b) w.drew o1 (fun e=>by cases e) (b4 w.drew (fun _=>by simp));have j2:=RvL.length _ _ o2;have j7:(os.toArray++us.toArray++Builtin.zeroCells zv.cells (grownCap w (len+(m+1)) C e-(len+(m+1)))).toList.take ((cs.drop off).take (len*es)++new).length=os++us:=by
       simp only[Array.toList_append,List.length_append];rw[<-j2,<-hlen,<-List.length_append,List.take_left]
      obtain⟨O,I⟩:=qU b6 (by simpa using D) b1 ((cs.drop off).take (len*es)++new) (os.toArray++us.toArray++Builtin.zeroCells zv.cells (grownCap w (len+(m+1)) C e-(len+(m+1)))) e
       (by rw[j7];exact RvL.ext a6 _ _ (RvL.append _ _ _ _ o2 U)) (by
        rw[j7];intro u hu;rcases List.mem_append.1 hu with hu|hu
        ·exact o3 u hu
        ·exact a7 u hu)
      have b9:len+(m+1)<=grownCap w (len+(m+1)) C e:=by simp[grownCap,Question.cut]
      have e0:(grownCap w (len+(m+1)) C e-(len+(m+1)))*es+(len*es+(m+1)*es)=grownCap w (len+(m+1)) C e*es:=by
       rw[<-Nat.add_mul,<-Nat.add_mul];congr 1;omega
      have N:aN H [(i',.dead),(nid,.own ((cs.drop off).take (len*es)++new))]=aN (H.set i' .dead) [(nid,.own ((cs.drop off).take (len*es)++new))]:=by simp[aN,upd,aK hH]
      rw[<-N]at O I;refine⟨_,.slice (some ⟨w.heap.size,0,none⟩) (len+(m+1)) (grownCap w (len+(m+1)) C e),_,_,?_,.inl rfl,a6.trans O,I,.inr ⟨_,_,_,gl T D _,rfl,b9,rfl,fun _=>⟨rfl,?_⟩⟩,fun j M=>fr T D _ (.own ((cs.drop off).take (len*es)++new)) j (fun b hb=>M b (by simp at hb ⊢;exact .inr hb))⟩
      ·simp[Builtin.append_,run_underlying ht,run_underlying b5,sizeOf,typeInfo,zeroValue,hi,c8,Builtin.lenOf,c9,e3,g1,g2,Y,Question.forced,j1,c6,newRow,grownCap];congr 2;apply Array.ext';simp[List.append_assoc]
      ·simp only[Array.size_append,List.size_toArray,o1,b8,size_zeroCells,b0];omega
    ·cases h
   ·
    rename_i rs hH;split at h
    ·rename_i E;simp only[Bool.and_eq_true,decide_eq_true_eq]at E;obtain⟨⟨⟨⟨⟨⟨rfl,rfl⟩,rfl⟩,k1⟩,k2⟩,k3⟩,_⟩:=E;cases h;have h5:us.length=m+1:=by omega
     have hlen:=RvL.length _ _ U;have b0:zv.cells.size=1:=by simpa using c7
     have N:aN H [(i',.dead),(nid,.rows (rs.take len++new.map .av))]=upd (H.set i' .dead) nid (.rows (rs.take len++new.map .av)):=by simp[aN,upd,aK hH]
     have a1:∀{k e8 es':Nat} {cs':List AV},(rs.take len++new.map RC.av)[k]?=some (.row e8 es' cs')->rs[k]?=some (.row e8 es' cs'):=by
      intro k e8 es' cs' h;by_cases hk:k<(rs.take len).length
      ·rw[List.getElem?_append_left hk,List.getElem?_take]at h;split at h
       ·exact h
       ·cases h
      ·rw[List.getElem?_append_right (by omega),List.getElem?_map]at h;cases hn:new[k-(rs.take len).length]? with
       |none=>rw[hn]at h;cases h
       |some z=>rw[hn]at h;cases h
     have cells:∀(w':World) (mu':Nat->Prop) (π':List (Option PB)) (os:List Value) (ss:Nat->Option (Nat×Nat×Nat)) (nb no:Nat),Ext B w w' (aI out π H) mu' π π'->os.length=len->
       (∀j u,os[j]?=some u->∃x,rs[j]?=some x/\RcV w (aI out π H) π (ss j) x u)->(∀k len es cs q,rs[k]?=some (RC.row len es cs)->ss k=some q->w'.heap[q.1]?=w.heap[q.1]?)->
       (∀j u,(os++us)[j]?=some u->w'.cell? ⟨nb,no+j,none⟩=some u)->RvW w' mu' π' (rs.take len++new.map .av) ss nb no:=by
      intro w' mu' π' os ss nb no O j2 k9 hq hc;refine RvW.of _ _ _ _ fun k x hk=>?_
      by_cases l0:k<len
      ·have l1:k<(rs.take len).length:=by simp;omega
       rw[List.getElem?_append_left l1,List.getElem?_take,if_pos l0]at hk;obtain⟨u,hu⟩:∃u,os[k]?=some u:=⟨os[k],geT (by omega)⟩;obtain⟨x',x1,x2⟩:=k9 k u hu;rw[hk]at x1;cases x1;refine⟨u,hc k u (by rw[List.getElem?_append_left (by omega)];exact hu),x2.ext O fun len es cs q e1 e2=>?_⟩;subst e1;exact hq k len es cs q hk e2
      ·have c0:(rs.take len).length=len:=by simp;omega
       rw[List.getElem?_append_right (by omega),c0,List.getElem?_map]at hk;cases hn:new[k-len]? with
       |none=>rw[hn]at hk;cases hk
       |some A=>
        rw[hn]at hk;cases hk;obtain⟨u,u1,u2⟩:=RvL.get _ _ _ _ U hn;exact⟨u,hc k u (by rw[List.getElem?_append_right (by omega),j2];exact u1),a7 u (List.mem_of_getElem? u1),Rv.ext O A u u2⟩
     rcases hs with⟨rfl,rfl⟩|⟨p,b,C,b3,rfl,h2,h8,h3⟩
     ·
      have a8:=growslice_fits (need:=m+1) (old:=0) (bytes:=by_) (by omega) (by simpa using k2);have g1:¬9223372036854775807<((m:Int)+1):=by omega
      have g2:¬281474976710656<Builtin.nextslicecap (m+1) 0*by_:=by omega
      obtain⟨a6,b6⟩:=T.kill i' (w':=w.drew) rfl rfl rfl rfl (fun _=>Nat.le_succ _);have j8:∀b',(Blk.rows (rs.take 0++new.map .av)).owns ⟨w.heap.size,0,(us.toArray++Builtin.zeroCells zv.cells (grownCap w (m+1) 0 e-(m+1))).size,fun _=>none⟩ b'->w.heap.size=b':=by
       rintro b' (h|⟨k,l',e',c',q,_,h,_⟩)
       ·exact h
       ·cases h
      have j3:=oz b6 (.cells (us.toArray++Builtin.zeroCells zv.cells (grownCap w (m+1) 0 e-(m+1))) e) (.rows (rs.take 0++new.map .av)) ⟨w.heap.size,0,(us.toArray++Builtin.zeroCells zv.cells (grownCap w (m+1) 0 e-(m+1))).size,fun _=>none⟩ rfl (by simpa using D) b1 j8;have j9:=b6.alloc (.cells (us.toArray++Builtin.zeroCells zv.cells (grownCap w (m+1) 0 e-(m+1))) e) (.rows (rs.take 0++new.map .av)) ⟨w.heap.size,0,(us.toArray++Builtin.zeroCells zv.cells (grownCap w (m+1) 0 e-(m+1))).size,fun _=>none⟩ rfl (by simpa using D) b1
       ⟨⟨_,e,(by show(w.heap.push _)[w.heap.size]?=_;simp),rfl⟩,cells _ _ _ [] (fun _=>none) _ _ (a6.trans j3) rfl (fun j u h=>by simp at h) (fun k l' e' c' q _ h=>by cases h) (fun j u M=>by
        show((w.drew.alloc _).cell? ⟨w.drew.heap.size,0+j,none⟩)=some u;rw[Nat.zero_add,World.cell?_alloc_new];have M:us[j]?=some u:=by simpa using M
        have:=aK M;simp[Array.getElem?_append,this,M];simpa using(List.getElem?_eq_some_iff.1 M).2),And.intro (fun k l' e' c' q _ h=>by cases h) (fun k k' l' e' l2 e2 c' c2 q q' _ _ _ h=>by cases h)⟩ j8
      rw[<-N]at j3 j9;have b9:m+1<=grownCap w (m+1) 0 e:=by simp[grownCap,Question.cut]
      refine⟨_,.slice (some ⟨w.heap.size,0,none⟩) (m+1) (grownCap w (m+1) 0 e),_,_,?_,.inl rfl,a6.trans j3,j9,.inr ⟨_,⟨w.heap.size,0,none⟩,grownCap w (m+1) 0 e,gl T D _,by rw[Nat.zero_add],by rw[Nat.zero_add];exact b9,rfl,fun _=>⟨rfl,?_⟩⟩,fun j M=>fr T D _ (.rows (rs.take 0++new.map .av)) j (fun b hb=>M b (by simp at hb ⊢;exact .inr hb))⟩
      ·simp[Builtin.append_,run_underlying ht,run_underlying b5,sizeOf,typeInfo,zeroValue,hi,c8,Builtin.lenOf,c9,e3,g1,g2,Question.forced,run_firstCells_none,c6,newRow,grownCap]
      ·simp only[Array.size_append,List.size_toArray,h5,size_zeroCells,b0];omega
     obtain⟨⟨c,te,J,e9⟩,hC,k4,k5⟩:=T.ok i' _ p hH b3;obtain⟨os,o1,o3,o4⟩:=RvW.L9 hC len k1;have b4:∀(w':World),(∀ad,w'.cell? ad=w.cell? ad)->∀b',some b=some b'->∀j u,os[j]?=some u->w'.cell? (b'.add j)=some u:=by
      intro w' j0 b' c3 j u M;cases c3;rw[j0];by_cases e6:0<C
      ·rw[(h3 e6).1,dW];exact(o4 j u M).1
      ·have:os.length=0:=by omega
       rw[List.length_eq_zero_iff]at this;subst this;simp at M
     by_cases Y:len+(m+1)<=C
     ·
      obtain⟨c3,a8⟩:=h3 (by omega);subst c3;have hK:p.off+0+len*1+us.length<=c.size:=by omega
      have e7:=run_storeCells_at P p.blk (p.off+0+len*1) te us 0 c w J (by simpa using hK) a7;simp only[Nat.add_zero]at e7;have c5:(Builtin.append_ #[t,t'] ty #[.slice (some ⟨p.blk,p.off+0,none⟩) len C,.slice a (m+1) cap]).run P w=
        .ok (.slice (some ⟨p.blk,p.off+0,none⟩) (len+(m+1)) C) (w.setRow p.blk (c.toList.take (p.off+len*1)++us++c.toList.drop (p.off+len*1+us.length)).toArray):=by
       simp[Builtin.append_,run_underlying ht,run_underlying b5,bt hn,Builtin.lenOf,Y,e4,dW];have k6:(storeCells ⟨p.blk,p.off+len,none⟩ us).run P w=.ok () (w.setRow p.blk (c.toList.take (p.off+len)++(us++c.toList.drop (p.off+len+us.length))).toArray):=by simpa using e7
       rw[k6];rfl
      obtain⟨O,I⟩:=T.grow hH b3 rfl (.rows (rs.take len++new.map .av)) ⟨p.blk,p.off,p.size,p.subs⟩ rfl D b1 (w':=w.setRow p.blk (c.toList.take (p.off+len*1)++us++c.toList.drop (p.off+len*1+us.length)).toArray)
       (by simp) (fun b hb=>by simp only[World.setRow,Array.getElem?_modify];rw[if_neg (by omega)]) rfl rfl rfl (fun _=>Nat.le_refl _) (fun O=>by
        refine⟨⟨_,te,setRow_heap w _ c _ te _ J,?_⟩,cells _ _ _ os p.subs _ _ O o1 (fun j u M=>(o4 j u M).2) (fun k l' e' c' q g1 g2=>?_) ?_,fun k l' e' c' q g1 g2=>k4 k l' e' c' q (a1 g1) g2,fun k k' l' e' l2 e2 c' c2 q q' j4 g1 g2 g3 g4=>k5 k k' l' e' l2 e2 c' c2 q q' j4 (a1 g1) (a1 g2) g3 g4⟩
        ·simp;omega
        ·have:=k4 k l' e' c' q g1 g2;simp only[World.setRow,Array.getElem?_modify];rw[if_neg (by omega)]
        ·intro j u M;simp only[World.cell?,setRow_heap w _ c _ te _ J];simp only[Option.isSome_none,Bool.false_eq_true,if_false,List.getElem?_toArray];have c0:(c.toList.take (p.off+len*1)).length=p.off+len*1:=by simp;omega
         rw[List.append_assoc];by_cases h4:j<os.length
         ·rw[List.getElem?_append_left h4]at M;rw[List.getElem?_append_left (by rw[c0];omega),List.getElem?_take,if_pos (by omega)];have:=(o4 j u M).1;simp only[World.cell?,J]at this;simpa using this
         ·rw[List.getElem?_append_right (by omega)]at M;rw[List.getElem?_append_right (by rw[c0];omega),c0,show p.off+j-(p.off+len*1)=j-os.length by omega];rw[List.getElem?_append_left (aK M)];exact M) (by
        rintro b' (h|⟨k,l',e',c',q,g1,g2,g3⟩)
        ·exact .inl h
        ·exact .inr ⟨k,l',e',c',q,a1 g1,g2,g3⟩)
      rw[<-N]at O I;refine⟨_,.slice (some ⟨p.blk,p.off+0,none⟩) (len+(m+1)) C,_,_,by simp only[Sem.run_bind,c5,Result.andThen_ok];rfl,.inl rfl,O,I,.inr ⟨_,_,_,gl T D _,rfl,Y,rfl,fun _=>⟨rfl,?_⟩⟩,fun j M=>fr T D _ (.rows (rs.take len++new.map .av)) j (fun b hb=>M b (by simp at hb ⊢;exact .inr hb))⟩;simpa using a8
     ·
      have a8:=growslice_fits (need:=len+(m+1)) (old:=C) (bytes:=by_) (by omega) k2;have g1:¬9223372036854775807<((len:Int)+((m:Int)+1)):=by omega
      have g2:¬281474976710656<Builtin.nextslicecap (len+(m+1)) C*by_:=by omega
      have j1:=dD (P:=P) (n:=1) (m:=len) (cap:=C) (a:=some b) w.drew (by omega) (fun e=>by cases e) (b4 w.drew (fun _=>by simp));obtain⟨O,I⟩:=T.move hH b3 rfl (.rows (rs.take len++new.map .av)) ⟨w.heap.size,0,(os.toArray++us.toArray++Builtin.zeroCells zv.cells (grownCap w (len+(m+1)) C e-(len+(m+1)))).size,p.subs⟩ D b1
       (w':=w.drew.alloc (.cells (os.toArray++us.toArray++Builtin.zeroCells zv.cells (grownCap w (len+(m+1)) C e-(len+(m+1)))) e)) (by simp) (fun b' c3 _=>by simp only[World.alloc,World.drew,Array.getElem?_push];rw[if_neg (by omega)]) rfl rfl rfl (fun _=>Nat.le_succ _) (by
        rintro b' (h|⟨k,l',e',c',q,g1,g2,g3⟩)
        ·simp only at h;subst h;right;simp
        ·exact .inl (.inr ⟨k,l',e',c',q,a1 g1,g2,g3⟩)) (fun O=>by
        refine⟨⟨_,e,(by show(w.heap.push _)[w.heap.size]?=_;simp),rfl⟩,cells _ _ _ os p.subs _ _ O o1 (fun j u M=>(o4 j u M).2) (fun k l' e' c' q g1 g2=>?_) ?_,fun k l' e' c' q g1 g2=>?_,fun k k' l' e' l2 e2 c' c2 q q' j4 g1 g2 g3 g4=>k5 k k' l' e' l2 e2 c' c2 q q' j4 (a1 g1) (a1 g2) g3 g4⟩
        ·have:=(T.baseO i' _ p q.1 hH b3 (.inr ⟨k,l',e',c',q,g1,g2,rfl⟩)).2;simp only[World.alloc,World.drew,Array.getElem?_push];rw[if_neg (by omega)]
        ·intro j u M;show((w.drew.alloc _).cell? ⟨w.drew.heap.size,0+j,none⟩)=some u;rw[Nat.zero_add,World.cell?_alloc_new];have h4:=aK M;have hl:(os.toArray++us.toArray)[j]?=some u:=by
          have e:os.toArray++us.toArray=(os++us).toArray:=by simp
          rw[e,List.getElem?_toArray];exact M
         rw[Array.getElem?_append,if_pos (by have:=(Array.getElem?_eq_some_iff.1 hl).1;exact this)];exact hl
        ·have:=(T.baseO i' _ p q.1 hH b3 (.inr ⟨k,l',e',c',q,a1 g1,g2,rfl⟩)).2;simp only;omega)
      have b9:len+(m+1)<=grownCap w (len+(m+1)) C e:=by simp[grownCap,Question.cut]
      rw[<-N]at O I;refine⟨_,.slice (some ⟨w.heap.size,0,none⟩) (len+(m+1)) (grownCap w (len+(m+1)) C e),_,_,?_,.inl rfl,O,I,.inr ⟨_,_,_,gl T D _,rfl,b9,rfl,fun _=>⟨rfl,?_⟩⟩,fun j M=>fr T D _ (.rows (rs.take len++new.map .av)) j (fun b hb=>M b (by simp at hb ⊢;exact .inr hb))⟩
      ·simp[Builtin.append_,run_underlying ht,run_underlying b5,sizeOf,typeInfo,zeroValue,hi,c8,Builtin.lenOf,c9,e3,g1,g2,Y,Question.forced,j1,c6,newRow,grownCap];congr 2;apply Array.ext';simp[List.append_assoc]
      ·simp only[Array.size_append,List.size_toArray,o1,h5,size_zeroCells,b0];omega
    ·cases h
   ·cases h
  ·exact(hq ⟨_,_,_,_,_,rfl⟩).elim
  ·cases h
end
def rQ(P:Program):Prop:=∀(f:Nat) (fn:Func),P.funcs[f]?=some fn->fn.name≠ "runtime.NumGoroutine"
section
variable{P:Program}{out:Nat->Prop}{B:Nat->Prop}{w:World}{π:List (Option PB)}{H:List Blk}
theorem Bq(Y:Inv out B w π H){at_:Array TypeId}{t e ty:TypeId}{n:Nat}{d x:AV}{vd vx:Value}{r:bj}(h0:at_[0]?=some t)(ht:P.underlying t=some (.slice e))(hn:eG P e=some n)
  (hd:Rv w (aI out π H) π d vd) (hx:Rv w (aI out π H) π x vx) (h:w9 H n d x=some r):bX P out B w π H (do pure (.value (<-Builtin.copy_ at_ ty #[vd,vx]))) r:=by
 unfold w9 at h;split at h
 ·cases h
 rename_i new m hc;obtain⟨a,cap,rfl,J,b1,us,M,C,N,E⟩:=kx Y hx hc;split at h
 rotate_left
 ·cases h
 rename_i i off len es;split at h
 rotate_left
 ·cases h
 rename_i cs hH;split at h
 rotate_left
 ·cases h
 rename_i z;cases h;simp only[Bool.and_eq_true,decide_eq_true_eq]at z;obtain⟨rfl,hle⟩:=z;have O:Nat.min m len<=m:=Nat.min_le_left _ _;have a1:Nat.min m len<=len:=Nat.min_le_right _ _;have b3:Nat.min m len*es<=m*es:=Nat.mul_le_mul_right _ O;have b4:Nat.min m len*es<=len*es:=Nat.mul_le_mul_right _ a1;have q:aN H [(i,.own cs)]=H:=by
  simp only[aN,upd,aK hH,if_true];apply List.ext_getElem?;intro j;rw[List.getElem?_set];split
  ·rename_i a6;subst a6;rw[if_pos (aK hH)];exact hH.symm
  ·rfl
 have T:∀k,k<=m->(Builtin.firstCells es k (.slice a m cap)).run P w=.ok (us.take (k*es)).toArray w:=by
  intro k hk;cases a with
  |none=>
   have:=J rfl;subst this;have:us=[]:=by rw[<-List.length_eq_zero_iff,M];simp
   subst this;simp[Builtin.firstCells]
  |some b=>
   refine run_firstCells_some w es k b m cap _ ?_ fun j u hj=>E b rfl j u ?_
   ·rw[List.length_take,M];exact Nat.min_eq_left (Nat.mul_le_mul_right _ hk)
   ·rw[List.getElem?_take]at hj;split at hj
    ·exact hj
    ·cases hj
 rcases hd with⟨rfl,rfl⟩|⟨p,ad,D,hp,rfl,b5,b6,U⟩
 ·
  have e0:Nat.min m 0=0:=Nat.min_zero m;have I:=T 0 (Nat.zero_le _);simp only[e0,Nat.zero_mul,List.take_zero,setCells]at I ⊢;refine⟨.value (.int .i64 0),.int .i64 0,w,π,?_,.inl rfl,?_,?_,rfl,fun _ _=>rfl⟩
  ·simp[Builtin.copy_,h0,run_underlying ht,bt hn,Builtin.lenOf,e0,I,goInt]
  ·rw[q];exact Ext.refl _ _ _
  ·rw[q];exact Y
 ·have I:=T _ O;by_cases hz:Nat.min m len*es=0
  ·rw[hz]at I;simp only[hz,List.take_zero,setCells]at I ⊢;refine⟨.value (.int .i64 (Nat.min m len:Nat)),.int .i64 (Nat.min m len:Nat),w,π,?_,.inl rfl,?_,?_,rfl,fun _ _=>rfl⟩
   ·simp only[Builtin.copy_]at*;simp[h0,run_underlying ht,bt hn,Builtin.lenOf,I,storeCells,goInt]
   ·rw[q];exact Ext.refl _ _ _
   ·rw[q];exact Y
  ·have a7:0<D:=by
    rcases Nat.eq_zero_or_pos D with h|h
    ·have:Nat.min m len=0:=by omega
     rw[this]at hz;simp at hz
    ·exact h
   obtain⟨a8,_⟩:=U a7;obtain⟨ab,ao,b7⟩:=ad;have b0:RvL w (aI out π H) π (new.take (Nat.min m len*es)) (us.take (Nat.min m len*es)):=RvL.take _ _ _ C;have b8:=RvL.length _ _ C;obtain⟨w',r1,r2,r3⟩:=mW (P:=P) hp (new.take (Nat.min m len*es)) (us.take (Nat.min m len*es)) 0 off cs w H Y hH b0 (fun v hv=>N v (List.mem_of_mem_take hv)) (by rw[List.length_take];omega);have hu:aN H [(i,.own (setCells cs off (new.take (Nat.min m len*es))))]=H.set i (.own (setCells cs off (new.take (Nat.min m len*es)))):=by simp[aN,upd,aK hH]
   rw[Nat.add_zero]at r2 r3;refine⟨.value (.int .i64 (Nat.min m len:Nat)),.int .i64 (Nat.min m len:Nat),w',π,?_,.inl rfl,by rw[hu];exact r2,by rw[hu];exact r3,rfl,fun _ _=>rfl⟩;rw[a8];simp only[Builtin.copy_]at*;simp[h0,run_underlying ht,bt hn,Builtin.lenOf,I,r1,goInt]
theorem xL(I:Inv out B w π H){nid:Nat}(m:nid<=H.length)(J:∀q,π[nid]?≠some (some q)){t t' e ty:TypeId}{kk:IntKind}{n by_:Nat}{z:List AV}{s x:AV}{vs vx:Value}{r:bj}(ht:P.underlying t=some (.slice e))(N:P.underlying t'=some (.int kk))
  (hn:eG P e=some n) (hb:mz P e=some by_) (hz:jP P e=some z) (hs:Rv w (aI out π H) π s vs) (hx:Rv w (aI out π H) π x vx) (h:tY nid n by_ z s x=some r):
  bX P out B w π H (do pure (.value (<-Builtin.append_ #[t,t'] ty #[vs,vx]))) r:=by
 obtain⟨j,i,hi,O,b7,rfl⟩:=nE hz w;have T:i.size=n:=by simpa [eG,hi]using hn
 have U:i.bytes=by_:=by simpa [mz,hi]using hb
 unfold tY at h;split at h
 ·rename_i k;split at h
  ·rename_i p;simp only[Bool.and_eq_true,decide_eq_true_eq]at p;obtain⟨⟨⟨⟨⟨k0,k1⟩,k2⟩,k3⟩,k4⟩,k5⟩:=p;cases h;cases hs;cases hx;obtain⟨M,rfl⟩:∃M:Nat,k=(M:Int):=⟨k.toNat,by omega⟩;have hM:0<M:=by omega
   have Y:¬M=0:=by omega
   have hk:((M:Int)).toNat=M:=by omega
   rw[hk]at k2 ⊢;have b8:=growslice_fits (need:=M) (old:=0) (bytes:=by_) (by omega) k2;have g1:¬9223372036854775807<(M:Int):=by omega
   have g2:¬281474976710656<Builtin.nextslicecap M 0*by_:=by omega
   have hw:IntKind.i64.wrap ((M:Int))=(M:Int):=by
    simp[IntKind.wrap,IntKind.bits,IntKind.signed];omega
   have g3:¬(2:Int)^48<(M:Int)*(by_:Int):=by
    rw[<-Int.natCast_mul];omega
   obtain⟨a1,a6⟩:=I.same (w':=w.drew) rfl rfl rfl rfl (fun _=>Nat.le_succ _);have C:j.cells.size=n:=by simpa using k4
   have a7:(Builtin.zeroCells j.cells M).toList=(List.replicate M j.cells.toList).flatten:=jY j.cells M (by omega);have D:∀(w0:World) (a8:Nat->Prop) (π0:List (Option PB)),RvL w0 a8 π0 (dm (j.cells.toList.map .at) M) ((List.replicate M j.cells.toList).flatten):=fun _ _ _=>ri _ _
   have hlen:=RvL.length _ _ (D w (aI out π H) π);have E:(Builtin.zeroCells j.cells M++Builtin.zeroCells j.cells (grownCap w M 0 e-M)).toList.take (dm (j.cells.toList.map .at) M).length=(List.replicate M j.cells.toList).flatten:=by
    rw[<-hlen,Array.toList_append,a7,List.take_left'];rfl
   obtain⟨hE,b0⟩:=qU a6 m J (dm (j.cells.toList.map .at) M) (Builtin.zeroCells j.cells M++Builtin.zeroCells j.cells (grownCap w M 0 e-M)) e (by rw[E];exact D _ _ _) (by rw[E];exact jB (all_zero k5) _);have b1:M<=grownCap w M 0 e:=by simp[grownCap,Question.cut]
   have e0:(grownCap w M 0 e-M)*n+M*n=grownCap w M 0 e*n:=by rw[<-Nat.add_mul];congr 1;omega
   refine⟨_,.slice (some ⟨w.heap.size,0,none⟩) M (grownCap w M 0 e),_,_,?_,.inl rfl,a1.trans hE,b0,.inr ⟨_,_,_,gl I m _,rfl,b1,rfl,fun _=>⟨rfl,?_⟩⟩,fr I m _ _⟩
   ·have b3:¬M*n=0:=by
     intro h0;rcases Nat.mul_eq_zero.1 h0 with h0|h0<;>omega
    have b4:¬n=0:=by omega
    have b5:¬281474976710656<(M:Int)*(by_:Int):=by rw[<-Int.natCast_mul];omega
    have g4:M<=9223372036854775807:=by omega
    have b6:¬(M:Int)<0:=by omega
    simp only[Builtin.append_];simp[run_underlying ht,run_underlying N,sizeOf,typeInfo,zeroValue,hi,O,asInt,asIntOf,hw,b6,b5,Y,b4,g4,T,U,g1,g2,b3,Question.forced,run_firstCells_none,newRow,grownCap]
   ·simp only[Array.size_append,size_zeroCells,C];omega
  ·cases h
 ·cases h
theorem Az(T:Inv out B w π H){at_:Array TypeId}{t e ty:TypeId}{n:Nat}{z:List AV}{d:AV}{vd:Value}{r:bj}(U:at_[0]?=some t)(Y:P.underlying t=some (.slice e))(hn:eG P e=some n)(hz:jP P e=some z)
  (hd:Rv w (aI out π H) π d vd) (h:rP H n z d=some r):bX P out B w π H (do pure (.value (<-Builtin.clear_ at_ ty #[vd]))) r:=by
 obtain⟨C,i0,hi,b5,I,rfl⟩:=nE hz w;unfold rP at h;split at h
 rotate_left
 ·cases h
 rename_i i off len es;split at h
 rotate_left
 ·cases h
 rename_i cs hH;split at h
 rotate_left
 ·cases h
 rename_i D;cases h;simp only[Bool.and_eq_true,decide_eq_true_eq]at D;obtain⟨⟨⟨⟨rfl,hle⟩,a1⟩,E⟩,a6⟩:=D;have q:aN H [(i,.own cs)]=H:=by
  simp only[aN,upd,aK hH,if_true];apply List.ext_getElem?;intro j;rw[List.getElem?_set];split
  ·rename_i a7;subst a7;rw[if_pos (aK hH)];exact hH.symm
  ·rfl
 have a8:C.cells.size=es:=by simpa using a1
 rcases hd with⟨rfl,rfl⟩|⟨p,ad,J,hp,rfl,b6,b7,M⟩
 ·simp only[dm,setCells];refine⟨.value (.tuple #[]),.tuple #[],w,π,?_,.inl rfl,?_,?_,rfl,fun _ _=>rfl⟩
  ·simp[Builtin.clear_,U,run_underlying Y]
  ·rw[q];exact Ext.refl _ _ _
  ·rw[q];exact T
 ·cases len with
  |zero=>
   simp only[dm,setCells];refine⟨.value (.tuple #[]),.tuple #[],w,π,?_,.inl rfl,?_,?_,rfl,fun _ _=>rfl⟩
   ·simp[Builtin.clear_,U,run_underlying Y]
   ·rw[q];exact Ext.refl _ _ _
   ·rw[q];exact T
  |succ m=>
   have b0:0<J:=by omega
   obtain⟨b1,_⟩:=M b0;obtain⟨ab,ao,b8⟩:=ad;have N:(Builtin.zeroCells C.cells (m+1)).toList=(List.replicate (m+1) C.cells.toList).flatten:=jY C.cells (m+1) (by omega);have O:RvL w (aI out π H) π (dm ((C.cells.toList.map .at).map wkN) (m+1)) ((List.replicate (m+1) C.cells.toList).flatten):=xc _ _;have b3:=RvL.length _ _ O;have b4:(dm ((C.cells.toList.map .at).map wkN) (m+1)).length=(m+1)*es:=by rw[<-b3,<-N,Array.length_toList,size_zeroCells,a8]
   obtain⟨w',r1,r2,r3⟩:=mW (P:=P) hp (dm ((C.cells.toList.map .at).map wkN) (m+1)) ((List.replicate (m+1) C.cells.toList).flatten) 0 off cs w H T hH O (jB (all_zero E) _) (by omega);have hu:aN H [(i,.own (setCells cs off (dm ((C.cells.toList.map .at).map wkN) (m+1))))]=H.set i (.own (setCells cs off (dm ((C.cells.toList.map .at).map wkN) (m+1)))):=by simp[aN,upd,aK hH]
   rw[Nat.add_zero]at r2 r3;refine⟨.value (.tuple #[]),.tuple #[],w',π,?_,.inl rfl,by rw[hu];exact r2,by rw[hu];exact r3,rfl,fun _ _=>rfl⟩;rw[b1];rw[<-N]at r1;simp[Builtin.clear_,U,run_underlying Y,I,r1]
theorem zK(j:rQ P){f:FuncId}(h:wv P f=true)(args:Array Value)(w:World):(callFunc f args).run P w=.ok (.enter f args) w:=by
 unfold wv at h;split at h
 ·rename_i fn m;have p:=j f fn m;have q:¬fn.body=none:=by intro e;simp[e]at h
  simp[callFunc,m,p,q]
 ·cases h
theorem xm(Y:Inv out B w π H){nid:Nat}(J:nid<=H.length)(a1:∀q,π[nid]?≠some (some q)){b:Builtin}{at_:Array TypeId}{ty:TypeId}{consts:Array Bool}{args:List AV}{vs:List Value}{r:bj}(M:RvL w (aI out π H) π args vs)(h:ln P H nid b at_ ty args=some r):
  bX P out B w π H (builtin b at_ ty consts vs.toArray) r:=by
 unfold ln at h;split at h
 ·rename_i x;obtain⟨v,N,rfl,E,rfl⟩:=M;split at h
  ·rename_i t I;split at h
   rotate_left
   ·refine iz h fun A m=>?_
    unfold F6 at m;split at m
    ·rename_i i hu a8;split at m
     ·rename_i es hH;cases m;obtain⟨p,hp,rfl⟩:=E;obtain⟨a,ha,hr⟩:=Y.ok i _ p hH hp;have hl:=RvM.len es a.toList 0 hr;exact bX.value (v:=.int .i64 (a.size:Nat)) (by simp[Builtin.len_,I,run_underlying hu,goInt,Go.MapKept.run_getObj_map ha]) (by
       have:a.size=es.length:=by simpa using hl
       rw[this];rfl)
     ·cases m
    ·cases m
   rename_i A m;cases h;have:∃u,(Builtin.len_ at_ ty #[v]).run P w=.ok u w/\Rv w (aI out π H) π A u:=by
    unfold KJ at m;split at m
    ·rename_i e nl cs len hu;cases m;rcases E with⟨_,rfl,_,rfl⟩|⟨b,o,cap,rfl,_⟩|⟨rfl,_,a,cap,rfl⟩
     rotate_left 2
     ·exact⟨.int .i64 0,by simp[Builtin.len_,I,run_underlying hu,goInt],rfl⟩
     ·exact⟨.int .i64 0,by simp[Builtin.len_,I,run_underlying hu,goInt],rfl⟩
     ·exact⟨.int .i64 len,by simp[Builtin.len_,I,run_underlying hu,goInt],rfl⟩
    ·rename_i e b off len es hu;cases m;rcases E with⟨rfl,rfl⟩|⟨p,a,cap,_,rfl,_⟩
     ·exact⟨.int .i64 0,by simp[Builtin.len_,I,run_underlying hu,goInt],rfl⟩
     ·exact⟨.int .i64 len,by simp[Builtin.len_,I,run_underlying hu,goInt],rfl⟩
    ·rename_i e hu;cases m;cases E;exact⟨.int .i64 0,by simp[Builtin.len_,I,run_underlying hu,goInt],rfl⟩
    ·rename_i s hu;cases m;cases E;exact⟨.int .i64 s.size,by simp[Builtin.len_,I,run_underlying hu,goInt],rfl⟩
    ·rename_i y n e hu;cases m;exact⟨.int .i64 n,by simp[Builtin.len_,I,run_underlying hu,goInt],rfl⟩
    ·cases m
   obtain⟨u,h1,h2⟩:=this;exact bX.value h1 h2
  ·cases h
 ·rename_i s x;obtain⟨v,N,rfl,hs,u,a6,rfl,E,rfl⟩:=M;split at h
  ·rename_i t t' h1 h2;split at h
   ·rename_i e e' hu O;split at h
    ·rename_i n by_ z T hb hz;split at h
     ·rename_i a7;have:=zm Y J a1 (ty:=ty) hu O T hb hz (by simpa using a7) hs E h;have e1:(Builtin.append_ at_ ty #[v,u]).run P=(Builtin.append_ #[t,t'] ty #[v,u]).run P:=by
       funext w;simp only[Builtin.append_,h1,h2];rfl
      have e2:(do pure (Next.value (<-Builtin.append_ at_ ty #[v,u])):Sem Next).run P=(do pure (Next.value (<-Builtin.append_ #[t,t'] ty #[v,u])):Sem Next).run P:=by
       funext w;simp only[Sem.run_bind,e1]
      cases r with
      |pure A=>obtain⟨U,y,j,C⟩:=this;exact⟨U,y,by rw[<-e2]at j;exact j,C⟩
      |eff A H'=>obtain⟨U,y,w',π',j,C⟩:=this;exact⟨U,y,w',π',by rw[<-e2]at j;exact j,C⟩
      |call f as=>obtain⟨y,j,C⟩:=this;exact⟨y,by rw[<-e2]at j;exact j,C⟩
     ·cases h
    ·cases h
   ·rename_i e kk hu O;split at h
    ·rename_i n by_ z T hb hz;have:=xL Y J a1 (ty:=ty) hu O T hb hz hs E h;have e1:(Builtin.append_ at_ ty #[v,u]).run P=(Builtin.append_ #[t,t'] ty #[v,u]).run P:=by
      funext w;simp only[Builtin.append_,h1,h2];rfl
     have e2:(do pure (Next.value (<-Builtin.append_ at_ ty #[v,u])):Sem Next).run P=(do pure (Next.value (<-Builtin.append_ #[t,t'] ty #[v,u])):Sem Next).run P:=by
      funext w;simp only[Sem.run_bind,e1]
     cases r with
     |pure A=>obtain⟨U,y,j,C⟩:=this;exact⟨U,y,by rw[<-e2]at j;exact j,C⟩
     |eff A H'=>obtain⟨U,y,w',π',j,C⟩:=this;exact⟨U,y,w',π',by rw[<-e2]at j;exact j,C⟩
     |call f as=>obtain⟨y,j,C⟩:=this;exact⟨y,by rw[<-e2]at j;exact j,C⟩
    ·cases h
   ·cases h
  ·cases h
 ·rename_i d x;obtain⟨v,N,rfl,hs,u,a6,rfl,E,rfl⟩:=M;split at h
  ·rename_i t h1;split at h
   ·rename_i e hu;split at h
    ·rename_i n T;exact Bq Y h1 hu T hs E h
    ·cases h
   ·cases h
  ·cases h
 ·rename_i d;obtain⟨v,N,rfl,hs,rfl⟩:=M;split at h
  ·rename_i t h1;split at h
   ·rename_i e hu;split at h
    ·rename_i n z T hz;exact Az Y h1 hu T hz hs h
    ·cases h
   ·cases h
  ·cases h
 ·split at h
  ·rename_i us D;have:=mL args vs us M D;subst this;split at h
   ·rename_i y hy;cases h;exact bX.value (fD hy w) rfl
   ·cases h
  ·cases h
 ·split at h
  ·rename_i us D;have:=mL args vs us M D;subst this;split at h
   ·rename_i y hy;cases h;exact bX.value (fD hy w) rfl
   ·cases h
  ·cases h
 ·split at h
  ·rename_i us D;have:=mL args vs us M D;subst this;split at h
   ·rename_i y hy;cases h;exact bX.value (fD hy w) rfl
   ·cases h
  ·cases h
 ·cases h
theorem ji(a6:rQ P)(D:Inv out B w π H){nid:Nat}(j:nid<=H.length)(E:∀q,π[nid]?≠some (some q)){ρ:Operand->AV}{ρc:Operand->Value}(hρ:∀x,Rv w (aI out π H) π (ρ x) (ρc x)){o:Oper}{r:bj}(h:evalOp P ρ H nid o=some r):
  bX P out B w π H (execOp ρc o) r:=by
 unfold evalOp at h;unfold execOp;cases a7:o.op<;>simp only[a7,w6,rh,yA,th,je,tE,mF,od,jL,tH,uA,lq]at h ⊢
 case move x=>cases h;exact⟨_,_,rfl,.inl rfl,hρ x⟩
 case «assign» x=>cases h;exact⟨_,_,rfl,.inl rfl,hρ x⟩
 case pick c a b=>
  split at h
  ·rename_i t hc;cases h;have a8:ρc c=.bool t:=by have:=hρ c;rw[hc]at this;exact this
   refine⟨_,if t then ρc a else ρc b,?_,.inl rfl,BQ (hρ a) (hρ b)⟩;simp[a8,asBool]
  ·cases h
 case alloc t=>
  split at h
  ·rename_i z I;split at h
   ·rename_i h1;cases h;exact AA D j E I h1
   ·cases h
  ·cases h
 case box t x=>
  split at h
  ·rename_i h1;cases h;exact DS D j E (hρ x) h1
  ·cases h
 case build t parts=>
  split at h
  ·rename_i z fs I hu;split at h
   ·rename_i pl b0;split at h
    ·rename_i h1;split at h
     ·rename_i cs J;cases h;obtain⟨u,r1,r2⟩:=sK (w:=w) (π:=π) hρ hu I b0 h1 J;exact bX.value r1 r2
     ·cases h
    ·cases h
   ·cases h
  ·rename_i z len e I hu;split at h
   ·rename_i n hn;split at h
    ·rename_i h1;split at h
     ·rename_i cs J;cases h;obtain⟨u,r1,r2⟩:=tj (w:=w) (π:=π) hρ hu I hn h1 J;exact bX.value r1 r2
     ·cases h
    ·cases h
   ·cases h
  ·cases h
 case buildSlice t len parts=>
  split at h
  ·rename_i e hu;split at h
   ·rename_i n z hn I;split at h
    ·rename_i hc;simp only[Bool.and_eq_true,decide_eq_true_eq]at hc;split at h
     ·rename_i cs J;cases h;exact uZ D j E hρ hu hn I hc.1.1 hc.1.2 hc.2 J
     ·cases h
    ·cases h
   ·cases h
  ·cases h
 case load t a=>
  refine iz h fun A C=>?_
  obtain⟨u,r1,r2⟩:=va D (hρ a) C;exact bX.value r1 r2
 case store t a x=>
  split at h
  ·rename_i H' b1;cases h;obtain⟨w',r1,r2,r3⟩:=y0 D (hρ a) (hρ x) b1;exact⟨.skip,undef,w',π,by simp[r1],.inr ⟨rfl,rfl⟩,r2,r3,trivial,fun _ _=>rfl⟩
  ·cases h
 case nilCheck x=>
  have M:=hρ x;split at h
  ·rename_i b off N;cases h;rw[N]at M;have O:=M;obtain⟨p,_,hp⟩:=M;refine⟨_,ρc x,?_,.inl rfl,O⟩;rw[hp];rfl
  ·rename_i cs off N;cases h;rw[N]at M;have O:=M;obtain⟨b,o,hp,_⟩:=M;refine⟨_,ρc x,?_,.inl rfl,O⟩;rw[hp];rfl
  ·rename_i f a c N;cases h;rw[N]at M;have O:=M;obtain⟨fs,cs,hp,_⟩:=M;refine⟨_,ρc x,?_,.inl rfl,O⟩;rw[hp];rfl
  ·cases h
 case binOp op t x y yt=>
  refine iz h fun A C=>?_
  obtain⟨u,r1,r2⟩:=zR (P:=P) (hρ x) (hρ y) C;exact bX.value r1 r2
 case unOp op t x=>exact xz (hρ x) (fun a b e N=>by subst e;exact fD N w) h
 case convert s d x=>
  split at h
  ·rename_i v hv;cases h;exact bX.value (Bi (P:=P) (w:=w) (hρ x) hv) rfl
  ·exact xz (hρ x) (fun a b e N=>by subst e;exact fD N w) h
 case makeFunc fn fs cs=>
  cases fn<;>simp only at h
  case func f=>
   cases h;refine bX.value (v:=.func (.func f) (fs.map ρc) (cs.map ρc)) rfl ⟨fs.map ρc,cs.map ρc,rfl,?_,?_⟩
   ·rw[Array.toList_map];exact ti hρ _
   ·rw[Array.toList_map];exact ti hρ _
  all_goals cases h
 case makeSlice t l c=>
  split at h
  ·rename_i e kl il kc ic hu hl hc;split at h
   ·rename_i n by_ z hn N I;split at h
    ·rename_i T;simp only[Bool.and_eq_true,decide_eq_true_eq]at T;obtain⟨⟨⟨⟨⟨⟨Y,k2⟩,k3⟩,k4⟩,k5⟩,k6⟩,k7⟩:=T;cases h;have e1:=qu (hρ l) hl;have e2:=qu (hρ c) hc;rw[e1,e2];exact vH D j E hu hn N I Y k2 k3 k4 k5 k6 k7
    ·cases h
   ·cases h
  ·cases h
 case slice t x lo hi mx=>
  cases mx with
  |some m=>simp only at h;cases h
  |none=>
   have ho:∀y:Option Operand,Jq w (aI out π H) π (y.map ρ) (y.map ρc):=by
    intro y;cases y with
    |none=>trivial
    |some y=>exact hρ y
   simp only at h;split at h
   ·rename_i s hs;have M:ρc x=.string s:=by have:=hρ x;rw[hs]at this;exact this
    have opt:∀(y:Option Operand) (z:Option Value),(match y with|none=>some none|some a=>(toV (ρ a)).map some)=some z->y.map ρc=z:=by
     intro y z I;cases y with
     |none=>cases I;rfl
     |some a=>
      simp only at I;cases ha:toV (ρ a)with
      |none=>simp[ha]at I
      |some b=>simp[ha]at I;subst I;simp[iD _ _ _ (hρ a) ha]
    split at h
    ·rename_i l hh hl b3;have e1:=opt lo l hl;have e2:=opt hi hh b3;split at h
     ·rename_i r' b4;cases h;rw[M];simp only[Option.map_none];rw[e1,e2];exact bX.value (fD b4 w) rfl
     ·cases h
    ·cases h
   ·refine iz h fun A C=>?_
    obtain⟨u,r1,r2⟩:=zQ D (hρ x) (ho lo) (ho hi) C;exact bX.value r1 r2
 case fieldAddr s x f=>
  refine iz h fun A C=>?_
  obtain⟨u,r1,r2⟩:=uu (P:=P) (w:=w) (hρ x) C;exact bX.value r1 r2
 case field s x f=>
  refine iz h fun A C=>?_
  obtain⟨u,r1,r2⟩:=zH (P:=P) (w:=w) (hρ x) C;exact bX.value r1 r2
 case indexAddr t x ix=>
  refine iz h fun A C=>?_
  obtain⟨u,r1,r2⟩:=uJ (P:=P) (w:=w) (hρ x) (hρ ix) C;exact bX.value r1 r2
 case index t x ix=>
  refine iz h fun A C=>?_
  obtain⟨u,r1,r2⟩:=zg (P:=P) (w:=w) (hρ x) (hρ ix) C;exact bX.value r1 r2
 case extract t ix=>
  split at h
  ·rename_i vs b5;refine iz h fun A C=>?_
   have ht:=hρ t;rw[b5]at ht;obtain⟨us,hu,hr⟩:=ht;obtain⟨u,r1,r2⟩:=RvL.get _ _ _ _ hr C;rw[hu];exact bX.value (v:=u) (by simp[Instr.extract,<-Array.getElem?_toList,r1]) r2
  ·cases h
 case makeMap t r=>
  exact vI D j E (by cases r with|none=>trivial|some y=>exact hρ y) h
 case lookup t x ix ok=>
  refine iz h fun A C=>?_
  obtain⟨u,r1,r2⟩:=xN D (hρ x) (hρ ix) C;exact bX.value r1 r2
 case mapUpdate t m k x=>exact qk D (hρ m) (hρ k) (hρ x) h
 case insert t m k x=>exact qk D (hρ m) (hρ k) (hρ x) h
 case mapEntry t m k=>exact x6 D (hρ m) (hρ k) h
 case entryStore t m s x=>exact si D (hρ m) (hρ s) (hρ x) h
 case range t x=>exact xO D j E (hρ x) h
 case entry it=>exact tG D (hρ it) h
 case call c=>
  cases U:c.callee<;>simp only[U]at h
  case value f=>
   split at h
   ·rename_i g fs cs hf;split at h
    ·rename_i hc;cases h;have a1:=hρ f;rw[hf]at a1;obtain⟨a,b,e1,h1,h2⟩:=a1;refine⟨a++c.args.map ρc++b,?_,?_⟩
     ·simp[resolve,U,e1,Deferred.ofValue,invoke,zK a6 hc]
     ·simp only[Array.toList_append,Array.toList_map];exact RvL.append _ _ _ _ (RvL.append _ _ _ _ h1 (ti hρ _)) h2
    ·cases h
   ·cases h
  case builtin b=>
   have ea:(c.args.toList.map ρc).toArray=c.args.map ρc:=by apply Array.ext';simp
   have e:∃consts,∀w,(do let d<-resolve ρc c o.type;invoke d.target d.args:Sem Next).run P w=(builtin b c.argTypes o.type consts (c.args.toList.map ρc).toArray).run P w:=
    ⟨_,fun w=>by rw[ea];simp only[resolve,U,invoke,Sem.run_bind,Sem.run_pure,Result.andThen_ok];rfl⟩
   obtain⟨consts,e⟩:=e;have:=xm (consts:=consts) D j E (ti hρ c.args.toList) h;cases r with
   |pure A=>obtain⟨nx,y,Y,k2⟩:=this;exact⟨nx,y,by rw[e];exact Y,k2⟩
   |eff A H'=>obtain⟨nx,y,w',π',Y,k2⟩:=this;exact⟨nx,y,w',π',by rw[e];exact Y,k2⟩
   |call f as=>obtain⟨y,Y,k2⟩:=this;exact⟨y,by rw[e];exact Y,k2⟩
  case invoke=>cases h
 all_goals cases h
end
end Go.Eng

