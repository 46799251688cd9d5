import Derived.Test.YtfhhaadcodofnaaGreatEng3Chks
import Derived.Laws.Cover3
import Derived.Laws.Pointers
import Derived.MapKept
set_option linter.all false
namespace Go.Eng
open Go Go.RowKit
variable[Dr]
def cV(P:Program)(out:Nat->Prop)(B:Nat->Prop)(w:World)(π:List (Option PB))(H:List Blk)(s:Sem Next):bU->Prop
 |.pure A=>∃m v,s.run P w=.ok m w/\(m=.value v\/m=.skip/\v=undef)/\Rv w (aL out π H) π A v
 |.eff A ws=>∃m v w' π',s.run P w=.ok m w'/\(m=.value v\/m=.skip/\v=undef)/\Ext B w w' (aL out π H) (aL out π' (aR H ws)) π π'/\Inv out B w' π' (aR H ws)/\Rv w' (aL out π' (aR H ws)) π' A v/\∀j,(∀b,(j,b)∉ws)->π'[j]?=π[j]?
 |.call f args=>∃vs,s.run P w=.ok (.enter f vs) w/\RvL w (aL out π H) π args vs.toList
section
variable{P:Program}{out:Nat->Prop}{B:Nat->Prop}{w:World}{π:List (Option PB)}{H:List Blk}
theorem cV.value{s:Sem Value}{A:AV}{v:Value}(h:s.run P w=.ok v w)(j:Rv w (aL out π H) π A v):cV P out B w π H (do pure (.value (<-s))) (.pure A):=
 ⟨.value v,v,by simp[h],.inl rfl,j⟩
theorem jU{s:Sem Next}{o:Option AV}{r:bU}(h:bU.ofP o=some r)(hs:∀A,o=some A->cV P out B w π H s (.pure A)):cV P out B w π H s r:=by
 cases o with
 |none=>cases h
 |some A=>cases h;exact hs A rfl
theorem xM{A:AV}{v:Value}{f:Value->Option Value}{s:Sem Value}{r:bU}(j:Rv w (aL out π H) π A v)(m:∀x y,v=x->f x=some y->s.run P w=.ok y w)(h:FQ f A=some r):
  cV P out B w π H (do pure (.value (<-s))) r:=by
 unfold FQ at h;split at h
 ·rename_i x hx;split at h
  ·rename_i y q;cases h;exact cV.value (m x y (kd A v x j hx) q) rfl
  ·cases h
 ·cases h
theorem Cq{t:Bool}{A j:AV}{a b:Value}(m:Rv w (aL out π H) π A a)(q:Rv w (aL out π H) π j b):Rv w (aL out π H) π (Fw t A j) (if t then a else b):=by
 unfold Fw;split
 ·cases m;cases q;cases t<;>rfl
 ·cases t
  ·exact q
  ·exact m
theorem kK{mu:Nat->Prop}{A:AV}{v:Value}{n:Int}(h:Rv w mu π A v)(j:A1 A=some n):∃k,v=.int k n:=by
 unfold A1 at j;split at j
 ·cases j;exact⟨_,h⟩
 ·cases j
theorem sN{mu:Nat->Prop}{A:AV}{v:Value}{k:IntKind}{n:Int}(h:Rv w mu π A v)(j:BD A=some (k,n)):v=.int k n:=by
 unfold BD at j;split at j
 ·cases j;exact h
 ·cases j
theorem xi{mu:Nat->Prop}{A j:AV}{v:Value}{n:Nat}(h:Rv w mu π A v)(hp:DK n A=some j):∃m:Addr,v=.pointer (some m)/\Rv w mu π j (.pointer (some (m.add n))):=by
 unfold DK at hp;split at hp
 ·cases hp;obtain⟨p,h1,rfl⟩:=h;exact⟨_,rfl,p,h1,by rw[gX,Nat.add_assoc]⟩
 ·cases hp;obtain⟨b,o,rfl,h2,q⟩:=h;exact⟨_,rfl,b,o,by rw[gX,Nat.add_assoc],h2,q⟩
 ·cases hp
theorem kA{mu:Nat->Prop}{t:TypeId}{cs:List AV}{vs:Array Value}{off:Nat}{A:AV}(h:RvL w mu π cs vs.toList)(hp:rN P t cs off=some A):
  ∃v,(part t vs off).run P w=.ok v w/\Rv w mu π A v:=by
 unfold rN at hp;split at hp
 ·rename_i ha;split at hp
  ·rename_i n j;cases hp;refine⟨.agg (vs.extract off (off+n)),by simp[part,xD ha,cn j],_,rfl,?_⟩;have:=RvL.take n _ _ (RvL.drop off _ _ h);rw[Array.toList_extract,List.extract_eq_take_drop];rwa[show off+n-off=n by omega]
  ·cases hp
 ·rename_i ha;obtain⟨v,h1,h2⟩:=RvL.get _ _ _ _ h hp;exact⟨v,by simp[part,xD ha,<-Array.getElem?_toList,h1],h2⟩
 ·cases hp
theorem AB{s:TypeId}{x:AV}{v:Value}{f:Nat}{A:AV}{mu:Nat->Prop}(hx:Rv w mu π x v)(h:Cw P s x f=some A):∃u,(Instr.field s v f).run P w=.ok u w/\Rv w mu π A u:=by
 unfold Cw at h;split at h
 ·rename_i q cs hu;split at h
  ·rename_i fd j;obtain⟨vs,rfl,m⟩:=hx;obtain⟨u,h1,h2⟩:=kA m h;exact⟨u,by simp[Instr.field,run_underlying hu,j,asAgg,h1],h2⟩
  ·cases h
 ·rename_i q a hu;split at h
  ·rename_i fd j;cases hx;obtain⟨u,h1,h2⟩:=kA (gQ a.toList) h;exact⟨u,by simp[Instr.field,run_underlying hu,j,asAgg,h1],h2⟩
  ·cases h
 ·cases h
theorem Aj{t:TypeId}{x q:AV}{v m:Value}{A:AV}{mu:Nat->Prop}(hx:Rv w mu π x v)(z:Rv w mu π q m)(h:yZ P t x q=some A):∃u,(Instr.index t v m).run P w=.ok u w/\Rv w mu π A u:=by
 unfold yZ at h;split at h
 ·rename_i len e cs i hu he;split at h
  ·rename_i n C hb;simp only[Bool.and_eq_true,decide_eq_true_eq]at hb;obtain⟨vs,rfl,D⟩:=hx;obtain⟨k,rfl⟩:=kK z he;obtain⟨u,h1,h2⟩:=kA D h;exact⟨u,by simp[Instr.index,asIntOf,run_underlying hu,hb,cn C,h1],h2⟩
  ·cases h
 ·rename_i len e a i hu he;split at h
  ·rename_i n C hb;simp only[Bool.and_eq_true,decide_eq_true_eq]at hb;cases hx;obtain⟨k,rfl⟩:=kK z he;obtain⟨u,h1,h2⟩:=kA (gQ a.toList) h;exact⟨u,by simp[Instr.index,asIntOf,run_underlying hu,hb,cn C,h1],h2⟩
  ·cases h
 ·rename_i s i hu he;have E:v=s:=hx;subst E;split at h
  ·rename_i j I;have:=kd q m j z I;subst this;cases hp:gl P (Instr.index t v m)with
   |none=>simp[hp]at h
   |some u=>simp[hp]at h;subst h;exact⟨u,ij hp w,rfl⟩
  ·cases h
 ·cases h
theorem vL{s:TypeId}{x:AV}{v:Value}{f:Nat}{A:AV}{mu:Nat->Prop}(hx:Rv w mu π x v)(h:ub P s x f=some A):∃u,(Instr.fieldAt s v f).run P w=.ok u w/\Rv w mu π A u:=by
 unfold ub at h;split at h
 ·rename_i C hu;split at h
  ·rename_i fd j;split at h
   ·cases h
   ·rename_i n m z;obtain⟨D,rfl,h2⟩:=xi hx h;refine⟨_,?_,h2⟩;have q:¬n=0:=fun e=>m e
    simp[Instr.fieldAt,run_underlying hu,j,Instr.sureAddr,fieldPlace,cn z,q]
   ·cases h
  ·cases h
 ·cases h
theorem vU{t:TypeId}{x z:AV}{v C:Value}{A:AV}{mu:Nat->Prop}(hx:Rv w mu π x v)(D:Rv w mu π z C)(h:tU P t x z=some A):∃u,(Instr.indexAt t v C).run P w=.ok u w/\Rv w mu π A u:=by
 unfold tU at h;split at h
 ·rename_i e i hu he;obtain⟨k,rfl⟩:=kK D he;split at h
  ·rename_i n nl cs len j;split at h
   ·rename_i hb;simp only[Bool.and_eq_true,decide_eq_true_eq]at hb;cases h;rcases hx with⟨_,E,_,_⟩|⟨b,o,cap,rfl,_,m,I⟩|⟨E,_⟩
    rotate_left 2
    ·omega
    ·omega
    ·exact⟨_,by simp[Instr.indexAt,asIntOf,run_underlying hu,hb,cn j];rfl,b,o,by rw[gX],m,I⟩
   ·cases h
  ·rename_i n b off len es j;split at h
   ·rename_i hb;simp only[Bool.and_eq_true,decide_eq_true_eq]at hb;cases h;rcases hx with⟨E,_⟩|⟨p,a,cap,h1,rfl,h2,J,m⟩
    ·omega
    have q:=(m (by omega)).1;exact⟨_,by simp[Instr.indexAt,asIntOf,run_underlying hu,hb,cn j];rfl,p,h1,by rw[q,gX,Nat.add_assoc]⟩
   ·cases h
  ·cases h
 ·rename_i len e i hu he;obtain⟨k,rfl⟩:=kK D he;split at h
  ·rename_i n j;split at h
   ·rename_i hb;simp only[Bool.and_eq_true,decide_eq_true_eq]at hb;obtain⟨N,rfl,h2⟩:=xi hx h;exact⟨_,by simp[Instr.indexAt,asIntOf,run_underlying hu,Instr.sureAddr,hb,cn j],h2⟩
   ·cases h
  ·cases h
 ·cases h
theorem dZ{mu:Nat->Prop}{isS:Bool}{len cap:Nat}{E D:Option AV}{q j:Option Value}{l h:Nat}(hle:len<=cap)
  (z:match E,q with|none,none=>True|some A,some v=>Rv w mu π A v|_,_=>False) (m:match D,j with|none,none=>True|some A,some v=>Rv w mu π A v|_,_=>False)
  (hb:rE len E D=some (l,h)):(Instr.sliceBounds isS len cap q j none).run P w=.ok (l,h,cap) w/\l<=h/\h<=len:=by
 unfold rE at hb;split at hb
 ·rename_i O C e1 e2;split at hb
  ·rename_i hd;simp only[Bool.and_eq_true,decide_eq_true_eq]at hd;cases hb;obtain⟨⟨d1,d2⟩,d3⟩:=hd;refine⟨?_,by omega,by omega⟩;cases E with
   |none=>
    cases q with
    |some _=>exact z.elim
    |none=>
     cases e1;cases D with
     |none=>
      cases j with
      |some _=>exact m.elim
      |none=>cases e2;simp[Instr.sliceBounds]
     |some A=>
      cases j with
      |none=>exact m.elim
      |some v=>
       obtain⟨k,rfl⟩:=kK m e2;have:C<=(cap:Int):=by omega
       simp[Instr.sliceBounds,Instr.sliceBound,asIntOf,this,d2]
   |some A=>
    cases q with
    |none=>exact z.elim
    |some v=>
     obtain⟨k,rfl⟩:=kK z e1;cases D with
     |none=>
      cases j with
      |some _=>exact m.elim
      |none=>cases e2;simp[Instr.sliceBounds,Instr.sliceBound,asIntOf,d1,d2]
     |some A=>
      cases j with
      |none=>exact m.elim
      |some v=>
       obtain⟨k,rfl⟩:=kK m e2;have J:C<=(cap:Int):=by omega
       have I:0<=C:=by omega
       have N:(C.toNat:Int)=C:=Int.toNat_of_nonneg I;simp only[Instr.sliceBounds,Instr.sliceBound,asIntOf,Sem.run_bind,Sem.run_pure,Result.andThen_ok,Sem.run_ite,I,J,and_self,if_true,d1,N,d2]
  ·cases hb
 ·cases hb
end
section
variable{P:Program}{out:Nat->Prop}{B:Nat->Prop}{w:World}{π:List (Option PB)}{H:List Blk}
def IM(w:World)(mu:Nat->Prop)(π:List (Option PB))(m:Option AV)(j:Option Value):Prop:=
 match m,j with|none,none=>True|some A,some v=>Rv w mu π A v|_,_=>False
theorem Ae(hI:Inv out B w π H){t:TypeId}{x:AV}{v:Value}{lo hi:Option AV}{I J:Option Value}{A:AV}(hx:Rv w (aL out π H) π x v)
  (q:IM w (aL out π H) π lo I) (z:IM w (aL out π H) π hi J) (h:wB P H t x lo hi=some A):∃u,(Instr.sliceAt t v I J none).run P w=.ok u w/\Rv w (aL out π H) π A u:=by
 unfold wB at h;split at h
 ·rename_i e hu;split at h
  ·rename_i n nl cs len C;split at h
   ·rename_i l m hb;cases h;rcases hx with⟨rfl,rfl,rfl,rfl⟩|⟨b,o,cap,rfl,hle,N,T⟩|⟨rfl,rfl,a,cap,rfl⟩
    ·obtain⟨r,r1,r2⟩:=dZ (P:=P) (w:=w) (isS:=true) (Nat.le_refl 0) q z hb;have e1:m=0:=by omega
     have e2:l=0:=by omega
     subst e1;subst e2;exact⟨.slice none 0 0,by simp[Instr.sliceAt,Instr.slice,run_underlying hu,r,cn C],.inl ⟨rfl,rfl,by simp,rfl⟩⟩
    ·obtain⟨r,r1,r2⟩:=dZ (P:=P) (w:=w) (isS:=true) hle q z hb;by_cases hc:cap=l
     ·have e1:m-l=0:=by omega
      refine⟨.slice (some ⟨b,o,none⟩) (m-l) (cap-l),by simp[Instr.sliceAt,Instr.slice,run_underlying hu,r,cn C];exact fun h=>(h hc).elim,.inr (.inl ⟨b,o,cap-l,rfl,by omega,?_,?_⟩)⟩
      ·intro j;simp[e1]at j
      ·simp[e1,RvC]
     ·refine⟨.slice (some ⟨b,o+l*n,none⟩) (m-l) (cap-l),by simp[Instr.sliceAt,Instr.slice,run_underlying hu,r,cn C,hc,gX],.inr (.inl ⟨b,o+l*n,cap-l,rfl,by omega,?_,?_⟩)⟩
      ·intro j;exact N (by intro e0;subst e0;simp at j)
      ·exact RvC.take _ _ _ _ (RvC.drop _ _ _ _ T)
    ·obtain⟨r,r1,r2⟩:=dZ (P:=P) (w:=w) (isS:=true) (Nat.zero_le cap) q z hb;have e1:m=0:=by omega
     have e2:l=0:=by omega
     subst e1;subst e2;by_cases hc:cap=0
     ·exact⟨.slice (some a) 0 0,by subst hc;simp[Instr.sliceAt,Instr.slice,run_underlying hu,r,cn C],.inr (.inr ⟨rfl,by simp,a,0,rfl⟩)⟩
     ·exact⟨.slice (some (a.add (0*n))) 0 cap,by simp[Instr.sliceAt,Instr.slice,run_underlying hu,r,cn C,hc],.inr (.inr ⟨rfl,by simp,_,cap,rfl⟩)⟩
   ·cases h
  ·rename_i n b off len es C;split at h
   ·rename_i l m hb U;cases h;obtain rfl:es=n:=by simpa using U
    rcases hx with⟨rfl,rfl⟩|⟨p,a,cap,h1,rfl,h2,Y,N⟩
    ·obtain⟨r,r1,r2⟩:=dZ (P:=P) (w:=w) (isS:=true) (Nat.le_refl 0) q z hb;have e1:m=0:=by omega
     have e2:l=0:=by omega
     subst e1;subst e2;exact⟨.slice none 0 0,by simp[Instr.sliceAt,Instr.slice,run_underlying hu,r,cn C],.inl ⟨rfl,rfl⟩⟩
    obtain⟨r,r1,r2⟩:=dZ (P:=P) (w:=w) (isS:=true) h2 q z hb;by_cases hc:cap=l
    ·refine⟨.slice (some a) (m-l) (cap-l),by simp[Instr.sliceAt,Instr.slice,run_underlying hu,r,cn C];exact fun h=>(h hc).elim,.inr ⟨p,a,cap-l,h1,rfl,by omega,Y,by omega⟩⟩
    ·have O:=N (by omega);refine⟨.slice (some (a.add (l*es))) (m-l) (cap-l),by simp[Instr.sliceAt,Instr.slice,run_underlying hu,r,cn C,hc],.inr ⟨p,_,cap-l,h1,rfl,by omega,by rw[O.1,gX],fun _=>⟨?_,?_⟩⟩⟩
     ·rw[O.1,gX,Nat.add_assoc]
     ·have e0:(cap-l)*es+l*es=cap*es:=by rw[<-Nat.add_mul];congr 1;omega
      omega
   ·cases h
  ·rename_i n C;split at h
   ·rename_i lh hb;cases h;obtain rfl:v=.slice none 0 0:=hx;obtain⟨l,m⟩:=lh;obtain⟨r,r1,r2⟩:=dZ (P:=P) (w:=w) (isS:=true) (Nat.le_refl 0) q z hb;have e1:m=0:=by omega
    have e2:l=0:=by omega
    subst e1;subst e2;exact⟨.slice none 0 0,by simp[Instr.sliceAt,Instr.slice,run_underlying hu,r,cn C],rfl⟩
   ·cases h
  ·cases h
 ·rename_i len e hu;split at h
  ·rename_i n b off C;split at h
   ·rename_i l m cs hb hH;split at h
    ·rename_i D;simp only[Bool.and_eq_true,decide_eq_true_eq]at D;cases h;obtain⟨p,h1,rfl⟩:=hx;obtain⟨r,r1,r2⟩:=dZ (P:=P) (w:=w) (isS:=false) (Nat.le_refl len) q z hb;obtain⟨⟨c,e',E,a1⟩,hC⟩:=hI.ok b _ p hH h1;by_cases hc:len=l
     ·refine⟨.slice (some ⟨p.blk,p.off+off,none⟩) (m-l) (len-l),by simp[Instr.sliceAt,run_underlying hu,Instr.sureAddr,r,cn C];exact fun h=>(h hc).elim,.inr ⟨p,_,len-l,h1,rfl,by omega,rfl,by omega⟩⟩
     ·refine⟨.slice (some ⟨p.blk,p.off+off+l*n,none⟩) (m-l) (len-l),by simp[Instr.sliceAt,run_underlying hu,Instr.sureAddr,r,cn C,hc,gX],.inr ⟨p,_,len-l,h1,rfl,by omega,rfl,fun _=>⟨by rw[Nat.add_assoc],?_⟩⟩⟩;have j:cs≠[]:=by
       intro e0;subst e0;have:0<len*n:=Nat.mul_pos (by omega) D.2;simp at D;omega
      have a6:=RvC.bound hC E j;have e0:(len-l)*n+l*n=len*n:=by rw[<-Nat.add_mul];congr 1;omega
      omega
    ·cases h
   ·cases h
  ·rename_i n cs off C;split at h
   ·rename_i l m hb;cases h;obtain⟨b,o,rfl,N,T⟩:=hx;obtain⟨r,r1,r2⟩:=dZ (P:=P) (w:=w) (isS:=false) (Nat.le_refl len) q z hb;by_cases hc:len=l
    ·have e1:m-l=0:=by omega
     refine⟨.slice (some ⟨b,o+off,none⟩) (m-l) (len-l),by simp[Instr.sliceAt,run_underlying hu,Instr.sureAddr,r,cn C];exact fun h=>(h hc).elim,.inr (.inl ⟨b,o+off,len-l,rfl,by omega,?_,?_⟩)⟩
     ·intro j;simp[e1]at j
     ·simp[e1,RvC]
    ·refine⟨.slice (some ⟨b,o+off+l*n,none⟩) (m-l) (len-l),by simp[Instr.sliceAt,run_underlying hu,Instr.sureAddr,r,cn C,hc,gX],.inr (.inl ⟨b,o+off+l*n,len-l,rfl,by omega,?_,?_⟩)⟩
     ·intro j;exact N (by intro e0;subst e0;simp at j)
     ·rw[Nat.add_assoc];exact RvC.take _ _ _ _ (RvC.drop _ _ _ _ T)
   ·cases h
  ·cases h
 ·cases h
theorem uO{mu:Nat->Prop}{t:TypeId}{A:AV}{v x:Value}(j:Rv w mu π A v)(h:AG P t A x=true):
  (binOp .eql t v x).run P w=.ok (.bool false) w/\(binOp .neq t v x).run P w=.ok (.bool true) w/\∀op a b,(eqGuard op t a b v x).run P w=.ok () w:=by
 unfold AG at h;split at h
 ·rename_i e nl cs len hu;rcases j with⟨m,h1,_⟩|⟨b,o,cap,rfl,_⟩|⟨_,_,a,cap,rfl⟩
  ·subst m;subst h1;simp at h
  ·have he:=run_equal_slice_nil (P:=P) w t e (some ⟨b,o,none⟩) len cap hu;exact⟨by simp[binOp,he],by simp[binOp,he],fun op a b=>by cases op<;>simp[eqGuard]⟩
  ·have he:=run_equal_slice_nil (P:=P) w t e (some a) 0 cap hu;exact⟨by simp[binOp,he],by simp[binOp,he],fun op a b=>by cases op<;>simp[eqGuard]⟩
 ·rename_i e b off len es hu;rcases j with⟨rfl,_⟩|⟨p,a,cap,_,rfl,_⟩
  ·simp at h
  have he:=run_equal_slice_nil (P:=P) w t e (some a) len cap hu;exact⟨by simp[binOp,he],by simp[binOp,he],fun op a b=>by cases op<;>simp[eqGuard]⟩
 ·rename_i e b off hu;obtain⟨p,_,rfl⟩:=j;have he:=run_equal_pointer_nil (P:=P) w t (some ⟨p.blk,p.off+off,none⟩) (by simp[Program.pointee,hu]);exact⟨by simp[binOp,he],by simp[binOp,he],fun op a b=>by cases op<;>simp[eqGuard]⟩
 ·rename_i e cs off hu;obtain⟨b,o,rfl,_⟩:=j;have he:=run_equal_pointer_nil (P:=P) w t (some ⟨b,o+off,none⟩) (by simp[Program.pointee,hu]);exact⟨by simp[binOp,he],by simp[binOp,he],fun op a b=>by cases op<;>simp[eqGuard]⟩
 ·cases h
theorem pL{mu:Nat->Prop}{op:BinOp}{t:TypeId}{x y:Operand}{a b:AV}{m j:Value}{A:AV}(ha:Rv w mu π a m)(hb:Rv w mu π b j)(h:vh P op t x y a b=some A):
  ∃u,(do eqGuard op t x y m j;binOp op t m j:Sem Value).run P w=.ok u w/\Rv w mu π A u:=by
 unfold vh at h;split at h
 ·rename_i u v hu q;have e1:=kd a m u ha hu;have e2:=kd b j v hb q;subst e1;subst e2;split at h
  ·rename_i r D;cases h;exact⟨r,ij D w,rfl⟩
  ·cases h
 ·rename_i v hu q;have e2:=kd b j v hb q;subst e2;split at h
  ·rename_i z;cases h;obtain⟨h1,_,C⟩:=uO (P:=P) ha z;exact⟨_,by simp[h1,C],rfl⟩
  ·rename_i z;cases h;obtain⟨_,h1,C⟩:=uO (P:=P) ha z;exact⟨_,by simp[h1,C],rfl⟩
  ·cases h
 ·cases h
theorem kx{mu:Nat->Prop}{A:AV}{v:Value}{cs:List AV}(h:Rv w mu π A v)(hc:y9 A=some cs):∃vs:Array Value,v=.agg vs/\RvL w mu π cs vs.toList:=by
 unfold y9 at hc;split at hc
 ·cases hc;exact h
 ·cases hc;cases h;exact⟨_,rfl,gQ _⟩
 ·cases hc
theorem tV{mu:Nat->Prop}{E:Nat}{f:TypeId->AV->AV->Option Bool}(z:∀t a b r m q,f t a b=some r->Rv w mu π a m->Rv w mu π b q->(Op.equalIn E t m q).run P w=.ok r w){xs ys:List AV}{vs us:Array Value}(hx:RvL w mu π xs vs.toList)(C:RvL w mu π ys us.toList):
  ∀(j:List Field) (r:Bool),B6 P f xs ys j=some r->(Op.eqFields E vs us j).run P w=.ok r w
 |[],r,h=>by cases h;simp[Op.eqFields]
 |g::j,r,h=>by
  simp only[B6]at h;simp only[Op.eqFields];split at h
  ·rename_i D;rw[if_neg (by simpa using D)];exact tV z hx C j r h
  ·rename_i D;rw[if_pos (by simpa using D)];split at h
   ·rename_i a b ha hb;obtain⟨m,I,a2⟩:=kA hx ha;obtain⟨q,J,b2⟩:=kA C hb;split at h
    ·rename_i r0 s N hs;cases h;have O:=tV z hx C j s hs;simp only[Sem.run_bind,I,J,Result.andThen_ok,z _ a b r0 m q N a2 b2];cases r0<;>simp[O]
    ·cases h
   ·cases h
theorem yS{mu:Nat->Prop}{C:Nat}{e:TypeId}{f:AV->AV->Option Bool}(D:∀a b r q z,f a b=some r->Rv w mu π a q->Rv w mu π b z->(Op.equalIn C e q z).run P w=.ok r w){n:Nat}{xs ys:List AV}{vs us:Array Value}(hx:RvL w mu π xs vs.toList)(E:RvL w mu π ys us.toList):
  ∀(m i:Nat) (r:Bool),CT P f e n xs ys m i=some r->
   ((forIn (List.range' i m) ((none,()):Option Bool×Unit) fun j _=>do
    let a<-part e vs (j*n);let b<-part e us (j*n);let c<-Op.equalIn C e a b
    if (!c)=true then pure (.done (some false,()))else pure (.yield (none,())):Sem (Option Bool×Unit)).run P w)=.ok (if r then(none,())else(some false,())) w
 |0,i,r,h=>by cases h;simp
 |m+1,i,r,h=>by
  simp only[CT]at h;split at h
  ·rename_i a b ha hb;obtain⟨q,I,a2⟩:=kA hx ha;obtain⟨z,J,b2⟩:=kA E hb;split at h
   ·rename_i r0 s N hs;cases h;have O:=yS D hx E m (i+1) s hs;simp only[List.range'_succ,List.forIn_cons,Sem.run_bind,I,J,Result.andThen_ok,D a b r0 q z N a2 b2];cases r0
    ·simp
    ·simp only[Bool.not_true,Bool.false_eq_true,if_false,Sem.run_pure,Result.andThen_ok,Bool.true_and];exact O
   ·cases h
  ·cases h
theorem oJ{mu:Nat->Prop}:∀(d j:Nat) (t:TypeId) (a b:AV) (r:Bool) (m q:Value),d<=j->wM P d t a b=some r->Rv w mu π a m->Rv w mu π b q->(Op.equalIn j t m q).run P w=.ok r w
 |0,_,_,_,_,_,_,_,_,h,_,_=>by cases h
 |d+1,0,_,_,_,_,_,_,hd,_,_,_=>by omega
 |d+1,j+1,t,a,b,r,m,q,hd,h,ha,hb=>by
  simp only[wM]at h;split at h
  ·rename_i E hu;split at h
   ·rename_i k x k' y;split at h
    ·rename_i hk;cases h;obtain rfl:=IntKind.ot hk;cases ha;cases hb;exact run_equalIn_int w j t _ _ x y hu
    ·cases h
   ·cases h
  ·rename_i hu;split at h
   ·cases h;cases ha;cases hb;exact run_equalIn_bool' w j t _ _ hu
   ·cases h
  ·rename_i D hu;split at h
   ·rename_i xs ys hs hx C;obtain⟨vs,rfl,h1⟩:=kx ha hx;obtain⟨us,rfl,h2⟩:=kx hb C;have z:P.fieldsOf t=D:=by unfold Program.fieldsOf;rw[hu]
    rw[run_equalIn_struct w j t vs us (by rw[z];exact hu) hs,z];exact tV (fun t a b r m q h ha hb=>oJ d j t a b r m q (by omega) h ha hb) h1 h2 _ r h
   ·cases h
  ·rename_i n e hu;split at h
   ·rename_i k xs ys hs hx C;obtain⟨vs,rfl,h1⟩:=kx ha hx;obtain⟨us,rfl,h2⟩:=kx hb C;have key:=yS (n:=k) (fun a b r m q h ha hb=>oJ d j e a b r m q (by omega) h ha hb) h1 h2 n 0 r h;simp only[Op.equalIn,Sem.run_bind,run_underlying hu,Result.andThen_ok,cn hs,Std.Legacy.Range.forIn_eq_forIn_range',Std.Legacy.Range.size,Nat.sub_zero,Nat.add_sub_cancel,Nat.div_one];rw[key];cases r<;>simp
   ·cases h
  ·cases h
theorem uQ{mu:Nat->Prop}{op:BinOp}{t:TypeId}{x y:Operand}{a b:AV}{j m:Value}{A:AV}(ha:Rv w mu π a j)(hb:Rv w mu π b m)(h:AI P op t a b=some A):
  ∃u,(do eqGuard op t x y j m;binOp op t j m:Sem Value).run P w=.ok u w/\Rv w mu π A u:=by
 unfold AI at h;split at h
 ·rename_i xs ys q hx z;obtain⟨vs,rfl,_⟩:=kx ha hx;obtain⟨us,rfl,_⟩:=kx hb z;split at h
  ·rename_i r C;cases h;refine⟨.bool r,?_,rfl⟩;simp only[Sem.run_bind,run_eqGuard_agg w .eql t x y vs us q,Result.andThen_ok,run_eql_struct,oJ 8 10000 t a b r _ _ (by omega) C ha hb]
  ·cases h
 ·rename_i xs ys q hx z;obtain⟨vs,rfl,_⟩:=kx ha hx;obtain⟨us,rfl,_⟩:=kx hb z;split at h
  ·rename_i r C;cases h;refine⟨.bool (!r),?_,rfl⟩;simp only[Sem.run_bind,run_eqGuard_agg w .neq t x y vs us q,Result.andThen_ok,run_neq_struct,oJ 8 10000 t a b r _ _ (by omega) C ha hb]
  ·cases h
 ·cases h
theorem z8{mu:Nat->Prop}{op:BinOp}{t:TypeId}{x y:Operand}{a b:AV}{j q:Value}{A:AV}(ha:Rv w mu π a j)(hb:Rv w mu π b q)(h:wx P op t x y a b=some A):
  ∃u,(do eqGuard op t x y j q;binOp op t j q:Sem Value).run P w=.ok u w/\Rv w mu π A u:=by
 unfold wx at h;split at h
 ·rename_i k m k' n;split at h
  ·rename_i hk;obtain rfl:=IntKind.ot hk;split at h
   ·rename_i r z;cases h;cases ha;cases hb;exact⟨r,Ax z w,rfl⟩
   ·exact pL ha hb h
  ·exact pL ha hb h
 ·exact uQ ha hb h
 ·exact uQ ha hb h
 ·exact pL ha hb h
theorem BQ{mu:Nat->Prop}{src dst:TypeId}{a:AV}{v u:Value}(ha:Rv w mu π a v)(h:FY P src dst a=some u):(convert src dst v).run P w=.ok u w:=by
 unfold FY at h;split at h
 ·split at h
  ·rename_i d k hs hd;cases h;cases ha;simp[convert,run_underlying hs,run_underlying hd,Conv.intToInt,lI]
  ·cases h
 ·cases h
end
end Go.Eng


namespace Go.Eng
open Go Go.RowKit Go.MapKept
variable[Dr]
section
variable{P:Program}{out:Nat->Prop}{B:Nat->Prop}{w:World}{π:List (Option PB)}{H:List Blk}
theorem wm:∀(l j:List Value),qY l j=some true->l=j/\(j.zip l).all (fun(x,y)=>Instr.sameBits 9999 x y)=true
 |[],[],_=>⟨rfl,rfl⟩
 |.int k x::l,.int k' y::j,h=>by
  simp only[qY]at h;split at h
  ·rename_i m hk h1;simp only[Option.some.injEq,Bool.and_eq_true,beq_iff_eq]at h;obtain⟨rfl,rfl⟩:=h;obtain rfl:=IntKind.ot hk;obtain⟨rfl,h2⟩:=wm l j h1;exact⟨rfl,by rw[List.zip_cons_cons,List.all_cons,h2];simp[Instr.sameBits]⟩
  ·cases h
 |[],_::_,h=>by simp[qY]at h
theorem BT{k v:Value}(h:kEq k v=some true):Instr.sameBits 10000 v k=true:=by
 unfold kEq at h;split at h
 ·rename_i a b;obtain⟨h1,h2⟩:=wm _ _ h;have hs:b.size=a.size:=by have:=congrArg List.length h1;simpa using this.symm
  show(b.size==a.size&&(b.toList.zip a.toList).all fun(x,y)=>Instr.sameBits 9999 x y)=true;rw[h2,hs];simp
 ·split at h
  ·rename_i hb;have e:=IntKind.ot hb;subst e;simp only[Option.some.injEq,beq_iff_eq]at h;subst h;simp[Instr.sameBits]
  ·cases h
 ·simp only[Option.some.injEq,beq_iff_eq]at h;subst h;simp[Instr.sameBits]
 ·cases h
theorem oB{e:TypeId}(h:pX P e=true):(∃k,P.underlying e=some (.int k))/\gE P e=some 1/\Ek P e=some false:=by
 unfold pX at h;split at h
 ·rename_i k n hu hs;obtain rfl:=Nat.eq_of_beq_eq_true h;exact⟨⟨k,hu⟩,hs,by unfold Ek;rw[hu]⟩
 ·cases h
theorem BN{e:TypeId}(h:pX P e=true){k k':IntKind}{x y:Int}(hk:IntKind.ux k k'=true)(d:Nat):wM P (d+1) e (.at (.int k x)) (.at (.int k' y))=some (x==y):=by
 obtain⟨⟨q,hu⟩,_,_⟩:=oB h;simp only[wM,hu,hk]
theorem zF{e:TypeId}(h:pX P e=true)(xs:List Value)(i:Nat):rN P e (xs.map .at) i=(xs[i]?).map .at:=by
 obtain⟨_,_,ha⟩:=oB h;simp only[rN,ha,List.getElem?_map]
theorem drop_cons{xs l:List Value}{x:Value}{i:Nat}(h:xs.drop i=x::l):xs[i]?=some x/\xs.drop (i+1)=l:=by
 have h1:xs[i]?=some x:=by rw[<-List.head?_drop,h];rfl
 refine⟨h1,?_⟩;rw[<-List.drop_drop,h];rfl
theorem E9{xs ys:List Value}:∀(j:List Field) (i:Nat) (r:Bool),wH P j i=true->qY (xs.drop i) (ys.drop i)=some r->(xs.drop i).length=j.length->B6 P (wM P 1) (xs.map .at) (ys.map .at) j=some r
 |[],i,r,_,h,m=>by
  have:xs.drop i=[]:=List.length_eq_zero_iff.1 m;rw[this]at h;cases q:ys.drop i with
  |nil=>rw[q]at h;simp only[qY]at h;simp only[B6];exact h
  |cons y l=>rw[q]at h;simp[qY]at h
 |f::j,i,r,hw,h,m=>by
  simp only[wH,Bool.and_eq_true]at hw;obtain⟨⟨⟨w1,z⟩,D⟩,E⟩:=hw;have z:=Nat.eq_of_beq_eq_true z;cases hx:xs.drop i with
  |nil=>rw[hx]at m;simp at m
  |cons x l=>
   cases q:ys.drop i with
   |nil=>rw[hx,q]at h;cases x<;>simp[qY]at h
   |cons y Y=>
    obtain⟨x1,x2⟩:=drop_cons hx;obtain⟨I,J⟩:=drop_cons q;rw[hx,q]at h;have C:(xs.drop (i+1)).length=j.length:=by rw[x2];rw[hx]at m;simpa using m
    unfold qY at h;split at h
    ·rename_i e1 _;cases e1
    ·rename_i k a l0 k' b N e1 e2;cases e1;cases e2;split at h
     ·rename_i O hk h1;cases h;have T:=E9 (xs:=xs) (ys:=ys) j (i+1) O E (by rw[x2,J];exact h1) C;have U:decide (f.name= "_")=false:=by simpa using w1
      simp only[B6,U,zF D,z,x1,I,Option.map_some,BN D hk,T]
     ·cases h
    ·cases h
theorem Fh{e:TypeId}(z:pX P e=true){xs ys:List Value}:∀(m i:Nat) (r:Bool),qY (xs.drop i) (ys.drop i)=some r->(xs.drop i).length=m->CT P (wM P 1 e) e 1 (xs.map .at) (ys.map .at) m i=some r
 |0,i,r,h,j=>by
  have:xs.drop i=[]:=List.length_eq_zero_iff.1 j;rw[this]at h;cases q:ys.drop i with
  |nil=>rw[q]at h;simp only[qY]at h;simp only[CT];exact h
  |cons y l=>rw[q]at h;simp[qY]at h
 |m+1,i,r,h,j=>by
  cases hx:xs.drop i with
  |nil=>rw[hx]at j;simp at j
  |cons x l=>
   cases q:ys.drop i with
   |nil=>rw[hx,q]at h;cases x<;>simp[qY]at h
   |cons y O=>
    obtain⟨x1,x2⟩:=drop_cons hx;obtain⟨D,E⟩:=drop_cons q;rw[hx,q]at h;have C:(xs.drop (i+1)).length=m:=by rw[x2];rw[hx]at j;simpa using j
    unfold qY at h;split at h
    ·rename_i e1 _;cases e1
    ·rename_i k a T k' b I e1 e2;cases e1;cases e2;split at h
     ·rename_i J hk h1;cases h;have N:=Fh z (xs:=xs) (ys:=ys) m (i+1) J (by rw[x2,E];exact h1) C;simp only[CT,Nat.mul_one,zF z,x1,D,Option.map_some,BN z hk,N]
     ·cases h
    ·cases h
theorem yL{t:TypeId}{a b:Array Value}{r:Bool}(ha:ov P t a=true)(h:qY a.toList b.toList=some r)(w:World):(Op.equal t (.agg a) (.agg b)).run P w=.ok r w:=by
 have key:wM P 2 t (.at (.agg a)) (.at (.agg b))=some r:=by
  unfold ov at ha;split at ha
  ·rename_i n e hu;simp only[Bool.and_eq_true]at ha;obtain⟨⟨h1,h2⟩,_⟩:=ha;obtain⟨_,hs,_⟩:=oB h1;have h2:=Nat.eq_of_beq_eq_true h2;simp only[wM,hu,hs,y9];exact Fh h1 n 0 r (by simpa using h) (by simpa using h2)
  ·rename_i m hu;simp only[Bool.and_eq_true]at ha;obtain⟨⟨⟨h1,h2⟩,_⟩,j⟩:=ha;have h2:=Nat.eq_of_beq_eq_true h2;have j:P.stoodInHeld t=false:=by simpa using j
   simp only[wM,hu,j,y9];exact E9 m.toList 0 r h1 (by simpa using h) (by simpa using h2)
  ·cases ha
 exact oJ (P:=P) (w:=w) (mu:=fun _=>False) (π:=[]) 2 10000 t _ _ r _ _ (by omega) key rfl rfl
theorem D6{e:TypeId}(h:pX P e=true)(em:Bool)(n:Nat){k:IntKind}{x:Int}(w:World):(Instr.checkKey em (n+1) e (.int k x)).run P w=.ok () w:=by
 obtain⟨⟨q,hu⟩,_,_⟩:=oB h;simp[Instr.checkKey,run_underlying hu]
theorem xY:∀(l:List Value),vz l=true->∀(i:Nat) (v:Value),l[i]?=some v->∃k x,v=.int k x
 |[],_,i,v,j=>by simp at j
 |.int k x::l,h,i,v,j=>by
  cases i with
  |zero=>simp at j;exact⟨k,x,j.symm⟩
  |succ i=>exact xY l (by simpa [vz]using h) i v (by simpa using j)
theorem BB{e:TypeId}(h:pX P e=true){xs:Array Value}{i:Nat}{v:Value}(hx:xs[i]?=some v)(w:World):(part e xs i).run P w=.ok v w:=by
 obtain⟨⟨q,hu⟩,_,_⟩:=oB h;simp[part,isAgg,run_underlying hu,hx]
theorem A0{t:TypeId}{a:Array Value}(ha:ov P t a=true)(em:Bool)(n:Nat)(w:World)(J:∀(e:TypeId) (k:IntKind) (x:Int),pX P e=true->(Instr.checkKey em n e (.int k x)).run P w=.ok () w):(Instr.checkKey em (n+1) t (.agg a)).run P w=.ok () w:=by
 unfold ov at ha;split at ha
 ·rename_i m0 e hu;simp only[Bool.and_eq_true]at ha;obtain⟨⟨h1,h2⟩,z⟩:=ha;obtain⟨_,hs,_⟩:=oB h1;have h2:=Nat.eq_of_beq_eq_true h2;have key:∀(m i:Nat),i+m<=a.size->((forIn (List.range' i m) PUnit.unit fun j _=>do
    let s<-sizeOf e;let v<-part e a (j*s)
    Instr.checkKey em n e v
    pure (ForInStep.yield PUnit.unit):Sem PUnit).run P w)=.ok PUnit.unit w:=by
   intro m;induction m with
   |zero=>intro i _;simp
   |succ m C=>
    intro i D;have q:i<a.size:=by omega
    have hx:a[i]?=some a[i]:=Array.getElem?_eq_getElem q;obtain⟨k,x,e1⟩:=xY a.toList z i a[i] (by rw[Array.getElem?_toList];exact hx);simp only[List.range'_succ,List.forIn_cons,Sem.run_bind,cn hs,Result.andThen_ok,Nat.mul_one,BB h1 hx,e1,J e k x h1,Sem.run_pure];exact C (i+1) (by omega)
  have:=key m0 0 (by omega);simp only[Instr.checkKey,Sem.run_bind,run_underlying hu,Result.andThen_ok,Std.Legacy.Range.forIn_eq_forIn_range',Std.Legacy.Range.size,Nat.sub_zero,Nat.add_sub_cancel,Nat.div_one,this,Sem.run_pure]
 ·rename_i O hu;simp only[Bool.and_eq_true]at ha;obtain⟨⟨⟨h1,h2⟩,z⟩,_⟩:=ha;have h2:=Nat.eq_of_beq_eq_true h2;have key:∀(l:List Field) (i:Nat),wH P l i=true->i+l.length<=a.size->((forIn l PUnit.unit fun f _=>
    if f.name≠ "_" then do
     let v<-part f.type a f.offset
     Instr.checkKey em n f.type v
     pure (ForInStep.yield PUnit.unit)
    else pure (ForInStep.yield PUnit.unit):Sem PUnit).run P w)=.ok PUnit.unit w:=by
   intro l;induction l with
   |nil=>intro i _ _;simp
   |cons f l C=>
    intro i hw D;simp only[wH,Bool.and_eq_true]at hw;obtain⟨⟨⟨w1,E⟩,N⟩,T⟩:=hw;have E:=Nat.eq_of_beq_eq_true E;have q:i<a.size:=by simp at D;omega
    have hx:a[i]?=some a[i]:=Array.getElem?_eq_getElem q;obtain⟨k,x,e1⟩:=xY a.toList z i a[i] (by rw[Array.getElem?_toList];exact hx);have I:f.name≠ "_" :=by simpa using w1
    simp only[List.forIn_cons,Sem.run_bind,I,ne_eq,not_false_eq_true,if_true,E,BB N hx,Result.andThen_ok,e1,J f.type k x N,Sem.run_pure];exact C (i+1) T (by simp at D;omega)
  have:=key O.toList 0 h1 (by omega);simp only[Instr.checkKey,Sem.run_bind,run_underlying hu,Result.andThen_ok];rw[<-Array.forIn_toList];have e:=congrArg (fun r=>r.andThen fun(a:PUnit) w'=>Sem.run P (pure ()) w') this;simp only[Result.andThen_ok,Sem.run_pure]at e;first|exact this|exact e
 ·cases ha
theorem C1{t:TypeId}{a:Array Value}(ha:ov P t a=true)(em:Bool)(w:World):(Instr.checkKey em 10000 t (.agg a)).run P w=.ok () w:=A0 ha em 9999 w fun e k x h=>D6 h em 9998 w
theorem tO{mu:Nat->Prop}{t:TypeId}{a:Array Value}(ha:ov P t a=true):∀(es:List (Value×AV)) (l:List MapEntry) (i0 j:Nat) (r:Option (Nat×AV)),RvM w mu π j es l->mf (.agg a) es i0=some r->
  (r=none/\(Instr.findAsking t (.agg a) l i0).run P w=.ok none w)\/∃(q:Nat) (e:MapEntry) (A:AV),r=some (i0+q,A)/\(Instr.findAsking t (.agg a) l i0).run P w=.ok (some (i0+q,e.val)) w/\l[q]?=some e/\es[q]?=some (e.key,A)/\e.born=j+q/\Rv w mu π A e.val/\Instr.sameBits 10000 e.key (.agg a)=true
 |[],l,i0,j,r,h,z=>by cases h;cases z;exact .inl ⟨rfl,by simp[Instr.findAsking]⟩
 |(k',A)::es,l,i0,j,r,h,z=>by
  obtain⟨e,D,rfl,rfl,I,J,N⟩:=h;simp only[mf]at z;have C:∀b,kEq (.agg a) e.key=some b->∃c,e.key=.agg c/\qY a.toList c.toList=some b:=by
   intro b hb;cases hk:e.key<;>rw[hk]at hb<;>simp only[kEq]at hb;all_goals first|exact⟨_,rfl,hb⟩|cases hb
  split at z
  ·rename_i hb;cases z;obtain⟨c,hc,E⟩:=C _ hb;refine .inr ⟨0,e,A,rfl,?_,rfl,rfl,I,J,BT hb⟩;simp only[Instr.findAsking,hc,Sem.run_bind,yL ha E,Result.andThen_ok,if_true,Sem.run_pure,Nat.add_zero]
  ·rename_i hb;obtain⟨c,hc,E⟩:=C _ hb;have m:(Instr.findAsking t (.agg a) (e::D) i0).run P w=(Instr.findAsking t (.agg a) D (i0+1)).run P w:=by
    simp only[Instr.findAsking,hc,Sem.run_bind,yL ha E,Result.andThen_ok,Bool.false_eq_true,if_false]
   rcases tO ha es D (i0+1) (j+1) r N z with⟨e1,e2⟩|⟨q,O,T,e1,e2,U,Y,e5,e6,e7⟩
   ·exact .inl ⟨e1,by rw[m];exact e2⟩
   ·exact .inr ⟨q+1,O,T,by rw[e1];congr 2;omega,by rw[m,e2];congr 3;omega,by simpa using U,by simpa using Y,by omega,e6,e7⟩
  ·cases z
theorem Dc{d:TypeDesc}{k v:Value}{b:Bool}(hk:IsKey d k)(h:kEq k v=some b):Instr.sameNow d k v=some b:=by
 unfold kEq at h;split at h
 ·cases d<;>simp only[IsKey]at hk
 ·rename_i j x m y;split at h
  ·rename_i hb;cases h;have e:=IntKind.ot hb;subst e;cases d<;>simp only[IsKey]at hk;simp[Instr.sameNow]
  ·cases h
 ·cases h;cases d<;>simp only[IsKey]at hk;simp[Instr.sameNow]
 ·cases h
theorem w6{mu:Nat->Prop}{d:TypeDesc}{k:Value}(hk:IsKey d k):∀(es:List (Value×AV)) (l:List MapEntry) (i0 j:Nat) (r:Option (Nat×AV)),RvM w mu π j es l->mf k es i0=some r->
  (r=none/\Instr.findNow d k l i0=some none)\/∃(m:Nat) (e:MapEntry) (A:AV),r=some (i0+m,A)/\Instr.findNow d k l i0=some (some (i0+m,e.val))/\l[m]?=some e/\es[m]?=some (e.key,A)/\e.born=j+m/\Rv w mu π A e.val/\Instr.sameBits 10000 e.key k=true
 |[],l,i0,j,r,h,q=>by cases h;cases q;exact .inl ⟨rfl,rfl⟩
 |(k',A)::es,l,i0,j,r,h,q=>by
  obtain⟨e,z,rfl,rfl,C,D,E⟩:=h;simp only[mf]at q;split at q
  ·rename_i hb;cases q;have g1:=Dc hk hb;exact .inr ⟨0,e,A,rfl,by simp[Instr.findNow,g1],rfl,rfl,C,D,BT hb⟩
  ·rename_i hb;have g1:=Dc hk hb;rcases w6 hk es z (i0+1) (j+1) r E q with⟨e1,e2⟩|⟨m,I,J,e1,e2,N,O,Y,T,U⟩
   ·exact .inl ⟨e1,by simp[Instr.findNow,g1,e2]⟩
   ·exact .inr ⟨m+1,I,J,by rw[e1];congr 2;omega,by simp[Instr.findNow,g1,e2];omega,by simpa using N,by simpa using O,by omega,T,U⟩
  ·cases q
theorem ni{mu:Nat->Prop}{t:TypeId}{k:Value}(hk:jX P t k=true){es:List (Value×AV)}{l:List MapEntry}{r:Option (Nat×AV)}(h:RvM w mu π 0 es l)(z:mf k es 0=some r):
  (∀em,(Instr.checkKey em 10000 t k).run P w=.ok () w)/\((r=none/\(Instr.findKey t k l).run P w=.ok none w)\/∃(j:Nat) (e:MapEntry) (A:AV),r=some (0+j,A)/\(Instr.findKey t k l).run P w=.ok (some (0+j,e.val)) w/\l[j]?=some e/\es[j]?=some (e.key,A)/\e.born=0+j/\Rv w mu π A e.val/\Instr.sameBits 10000 e.key k=true):=by
 have simple:∀d,P.underlying t=some d->IsKey d k->_:=fun d hd q=>by
  refine And.intro (a:=∀em,(Instr.checkKey em 10000 t k).run P w=.ok () w) (b:=(r=none/\(Instr.findKey t k l).run P w=.ok none w)\/∃(j:Nat) (e:MapEntry) (A:AV),r=some (0+j,A)/\(Instr.findKey t k l).run P w=.ok (some (0+j,e.val)) w/\l[j]?=some e/\es[j]?=some (e.key,A)/\e.born=0+j/\Rv w mu π A e.val/\Instr.sameBits 10000 e.key k=true) (fun em=>Go.MapKept.run_checkKey hd q em 9999) ?_;rcases w6 q es l 0 0 _ h z with⟨e1,e2⟩|⟨j,C,A2,e1,e2,D,E,I,J,N⟩
  ·exact .inl ⟨e1,Go.MapKept.run_findKey hd e2⟩
  ·exact .inr ⟨j,C,A2,e1,Go.MapKept.run_findKey hd e2,D,E,I,J,N⟩
 unfold jX at hk;split at hk
 ·rename_i O T n hu;exact simple _ hu (IntKind.ot hk).symm
 ·rename_i b hu;exact simple _ hu trivial
 ·rename_i U a hu;refine⟨fun em=>C1 hk em w,?_⟩;have hw:(Instr.findKey t (.agg a) l).run P w=(Instr.findAsking t (.agg a) l).run P w:=by
   cases l with
   |nil=>simp[Instr.findKey,run_underlying hu,Instr.findNow,Instr.findAsking]
   |cons e l=>
    unfold ov at hk;split at hk
    ·rename_i n Y m;simp[Instr.findKey,run_underlying m,Instr.findNow,Instr.sameNow]
    ·rename_i fs m;simp[Instr.findKey,run_underlying m,Instr.findNow,Instr.sameNow]
    ·cases hk
  rw[hw];exact tO hk es l 0 0 _ h z
 ·cases hk
theorem RvM.len{mu:Nat->Prop}:∀(es:List (Value×AV)) (l:List MapEntry) (j:Nat),RvM w mu π j es l->l.length=es.length
 |[],_,_,h=>by cases h;rfl
 |(k,A)::es,_,j,h=>by obtain⟨e,m,rfl,_,_,_,q⟩:=h;simp[RvM.len es m _ q]
theorem RvM.get{mu:Nat->Prop}:∀(es:List (Value×AV)) (l:List MapEntry) (j i:Nat) (k:Value) (A:AV),RvM w mu π j es l->es[i]?=some (k,A)->∃e,l[i]?=some e/\e.key=k/\e.born=j+i/\Rv w mu π A e.val
 |[],_,_,i,k,A,_,h=>by simp at h
 |(k',I)::es,_,j,i,k,A,h,m=>by
  obtain⟨e,q,rfl,h2,z,C,D⟩:=h;cases i with
  |zero=>simp at m;obtain⟨rfl,rfl⟩:=m;exact⟨e,rfl,h2,z,C⟩
  |succ i=>
   obtain⟨E,g1,g2,g3,g4⟩:=RvM.get es q (j+1) i k A D (by simpa using m);exact⟨E,by simpa using g1,g2,by omega,g4⟩
theorem RvM.set{mu:Nat->Prop}{k:Value}{A:AV}{v:Value}(m:Rv w mu π A v):∀(es:List (Value×AV)) (l:List MapEntry) (j i:Nat),RvM w mu π j es l->RvM w mu π j (es.set i (k,A)) (l.modify i fun e=>{e with key:=k,val:=v})
 |[],_,_,i,h=>by cases h;cases i<;>simp[RvM]
 |(k',E)::es,_,j,i,h=>by
  obtain⟨e,q,rfl,h2,z,D,C⟩:=h;cases i with
  |zero=>exact⟨_,q,rfl,rfl,z,m,C⟩
  |succ i=>exact⟨e,_,rfl,h2,z,D,RvM.set m es q (j+1) i C⟩
theorem RvM.snoc{mu:Nat->Prop}{k:Value}{A:AV}{v:Value}(m:Rv w mu π A v):∀(es:List (Value×AV)) (l:List MapEntry) (j:Nat),RvM w mu π j es l->RvM w mu π j (es++[(k,A)]) (l++[{key:=k,val:=v,born:=j+es.length}])
 |[],_,j,h=>by cases h;exact⟨_,[],rfl,rfl,rfl,m,rfl⟩
 |(k',q)::es,_,j,h=>by
  obtain⟨e,z,rfl,h2,C,D,E⟩:=h;have:=RvM.snoc (k:=k) m es z (j+1) E;rw[show j+1+es.length=j+((k',q)::es).length by simp;omega]at this;exact⟨e,_,rfl,h2,C,D,this⟩
theorem nH(j:Inv out B w π H){x:AV}{v:Value}{b:Nat}{es:List (Value×AV)}(hx:Rv w (aL out π H) π x v)(h:lq H x=some (b,es)):
  H[b]?=some (.map es)/\∃(p:PB) (a:Array MapEntry),v=.map (some p.blk)/\π[b]?=some (some p)/\w.heap[p.blk]?=some (.map a a.size)/\RvM w (aL out π H) π 0 es a.toList:=by
 unfold lq at h;split at h
 ·rename_i m;split at h
  ·rename_i es' hb;cases h;obtain⟨p,hp,rfl⟩:=hx;obtain⟨a,h1,h2⟩:=j.ok _ _ p hb hp;exact⟨hb,p,a,rfl,hp,h1,h2⟩
  ·cases h
 ·cases h
theorem xa{e:TypeId}{z:AV}(h:zu P e=some z):∃j,(∀w,(zeroValue e).run P w=.ok j w)/\∀(w:World) (mu:Nat->Prop) (π:List (Option PB)),Rv w mu π z j:=by
 unfold zu at h;split at h
 ·rename_i i m;split at h
  ·rename_i a ha;cases h;exact⟨.agg a,fun w=>by simp[zeroValue,typeInfo,m,ha],fun w mu π=>⟨a,rfl,gQ _⟩⟩
  ·rename_i v _ q;cases h;exact⟨v,fun w=>by simp[zeroValue,typeInfo,m,q],fun w mu π=>rfl⟩
  ·cases h
 ·cases h
theorem zm(hI:Inv out B w π H){t:TypeId}{x E:AV}{v C:Value}{ok:Bool}{A:AV}(hx:Rv w (aL out π H) π x v)(hi:Rv w (aL out π H) π E C)(h:eK P H t x E ok=some A):
  ∃u,(Instr.lookup t v C ok).run P w=.ok u w/\Rv w (aL out π H) π A u:=by
 unfold eK at h;split at h
 ·rename_i kt e b es k hu hm I;obtain⟨_,p,a,rfl,hp,hb,U⟩:=nH hI hx hm;obtain rfl:C=k:=kd E C k hi I;have j:∀{J:AV} {u:Value} {c:Bool},Rv w (aL out π H) π J u->Rv w (aL out π H) π (.tup [J,.at (.bool c)]) (.tuple #[u,.bool c]):=fun h=>⟨_,rfl,_,_,rfl,h,_,_,rfl,rfl,rfl⟩
  split at h
  ·rename_i z i J hk Y N;obtain⟨m,q⟩:=ni hk U N;rcases q with⟨e1,_⟩|⟨jx,O,A2,e1,e2,_,_,_,e6,_⟩
   ·cases e1
   ·cases e1;have run:∀o,(Instr.lookup t (.map (some p.blk)) C o).run P w=.ok (if o then .tuple #[O.val,.bool true]else O.val) w:=by
     intro o;simp only[Instr.lookup,Sem.run_bind,run_underlying hu,Result.andThen_ok,Go.MapKept.run_getObj_map hb,Sem.run_pure,m,e2]
    cases h;refine⟨_,run ok,?_⟩;cases ok
    ·exact e6
    ·exact j e6
  ·rename_i z hk Y N;obtain⟨m,q⟩:=ni hk U N;obtain⟨zv,T,D⟩:=xa Y;rcases q with⟨_,e2⟩|⟨jx,O,A2,e1,_⟩
   ·have run:∀o,(Instr.lookup t (.map (some p.blk)) C o).run P w=.ok (if o then .tuple #[zv,.bool false]else zv) w:=by
     intro o;simp only[Instr.lookup,Sem.run_bind,run_underlying hu,Result.andThen_ok,Go.MapKept.run_getObj_map hb,Sem.run_pure,m,e2,T]
    cases h;refine⟨_,run ok,?_⟩;cases ok
    ·exact D _ _ _
    ·exact j (D _ _ _)
   ·cases e1
  ·cases h
 ·cases h
theorem toList_modify(a:Array MapEntry)(i:Nat)(f:MapEntry->MapEntry):(a.modify i f).toList=a.toList.modify i f:=by simp
theorem uM(j:Inv out B w π H){b:Nat}{es es':List (Value×AV)}{p:PB}{a a':Array MapEntry}(hH:H[b]?=some (.map es))(hp:π[b]?=some (some p))(hb:w.heap[p.blk]?=some (.map a a.size))
  (m:∀(w':World) (mu':Nat->Prop),(∀A v,Rv w (aL out π H) π A v->Rv w' mu' π A v)->RvM w' mu' π 0 es' a'.toList):
  ∃w',w'={w with heap:=w.heap.setIfInBounds p.blk (.map a' a'.size)}/\Ext B w w' (aL out π H) (aL out π (aR H [(b,.map es')])) π π/\Inv out B w' π (aR H [(b,.map es')]):=by
 have hu:aR H [(b,.map es')]=H.set b (.map es'):=by simp[aR,upd,aT hH]
 rw[hu];refine⟨_,rfl,?_⟩;obtain⟨g1,g2⟩:=heap_set (o':=.map a' a'.size) hb;exact j.rm hH hp rfl (.map es') (by simp) (fun c hc=>g2 c hc) rfl rfl rfl (fun _=>Nat.le_refl _) (fun q=>⟨a',g1,m _ _ (fun A v h=>Rv.ext q A v h)⟩)
theorem RvM.of{w':World}{mu mu':Nat->Prop}(h:∀A v,Rv w mu π A v->Rv w' mu' π A v):∀(i:Nat) (es:List (Value×AV)) (l:List MapEntry),RvM w mu π i es l->RvM w' mu' π i es l
 |_,[],_,j=>j
 |i,(k,A)::es,l,j=>by
  obtain⟨e,m,h1,h2,q,z,C⟩:=j;exact⟨e,m,h1,h2,q,h _ _ z,RvM.of h (i+1) es m C⟩
theorem stays{old new:Value}(h:Instr.sameBits 10000 old new=true)(w:World):(Instr.keyThatStays old new).run P w=.ok new w:=by simp[Instr.keyThatStays,h]
theorem sd(J:Inv out B w π H){t:TypeId}{m k x:AV}{vm vk E:Value}{r:bU}(hm:Rv w (aL out π H) π m vm)(hk:Rv w (aL out π H) π k vk)(hx:Rv w (aL out π H) π x E)(h:gW P H t m k x=some r):
  cV P out B w π H (do Instr.mapUpdate t vm vk E;pure .skip) r:=by
 unfold gW at h;split at h
 ·rename_i kt e b es k' hu N O;obtain⟨hH,p,a,rfl,hp,hb,D⟩:=nH J hm N;obtain rfl:vk=k':=kd k vk k' hk O;split at h
  ·rename_i i A hk T;cases h;obtain⟨q,z⟩:=ni hk D T;rcases z with⟨e1,_⟩|⟨I,en,A2,e1,e2,e3,e4,e5,e6,e7⟩
   ·cases e1
   ·cases e1;obtain⟨w',rfl,U,C⟩:=uM J (es':=es.set (0+I) (vk,x)) (a':=a.modify (0+I) fun e=>{e with key:=vk,val:=E}) hH hp hb (fun w' mu' j=>by
     rw[toList_modify];exact RvM.set (j _ _ hx) es a.toList 0 _ (RvM.of j 0 es _ D))
    have Y:(((a[0+I]?).map (·.key)).getD vk)=en.key:=by rw[<-Array.getElem?_toList,Nat.zero_add,e3];rfl
    refine⟨.skip,undef,_,π,?_,.inr ⟨rfl,rfl⟩,U,C,trivial,fun _ _=>rfl⟩;simp only[Instr.mapUpdate,Sem.run_bind,run_underlying hu,Result.andThen_ok,Go.MapKept.run_getObj_map hb,q,e2,Y,stays e7];simp[Go.MapKept.run_setObj_map _ hb]
  ·rename_i hk T;cases h;obtain⟨q,z⟩:=ni hk D T;rcases z with⟨_,e2⟩|⟨I,en,A2,e1,_⟩
   ·have hl:=RvM.len es a.toList 0 D;have hl:a.size=es.length:=by simpa using hl
    obtain⟨w',rfl,U,C⟩:=uM J (es':=es++[(vk,x)]) (a':=a.push {key:=vk,val:=E,born:=a.size}) hH hp hb (fun w' mu' j=>by
     have:=RvM.snoc (k:=vk) (j _ _ hx) es a.toList 0 (RvM.of j 0 es _ D);rw[Nat.zero_add,<-hl]at this;simpa using this)
    refine⟨.skip,undef,_,π,?_,.inr ⟨rfl,rfl⟩,U,C,trivial,fun _ _=>rfl⟩;simp only[Instr.mapUpdate,Sem.run_bind,run_underlying hu,Result.andThen_ok,Go.MapKept.run_getObj_map hb,q,e2];simp[Go.MapKept.run_setObj_map _ hb]
   ·cases e1
  ·cases h
 ·cases h
theorem zG{A:AV}{w':World}{mu:Nat->Prop}{u:Value}{i:Nat}(h:Rv w' mu π A u):Rv w' mu π (.tup [A,.at (.int .i64 i)]) (.tuple #[u,goInt i]):=⟨_,rfl,_,_,rfl,h,_,_,rfl,rfl,rfl⟩
theorem y7(Y:Inv out B w π H){t:TypeId}{m k:AV}{vm vk:Value}{r:bU}(hm:Rv w (aL out π H) π m vm)(hk:Rv w (aL out π H) π k vk)(h:nu P H t m k=some r):
  cV P out B w π H (do pure (.value (<-Instr.mapEntry t vm vk))) r:=by
 unfold nu at h;split at h
 ·rename_i kt e b es k' hu a1 a6;obtain⟨hH,p,a,rfl,hp,hb,J⟩:=nH Y hm a1;obtain rfl:vk=k':=kd k vk k' hk a6;have T:=RvM.len es a.toList 0 J;have T:a.size=es.length:=by simpa using T
  split at h
  ·rename_i z i A hk hz hf;cases h;obtain⟨q,C⟩:=ni hk J hf;rcases C with⟨e1,_⟩|⟨D,E,A2,e1,e2,e3,e4,e5,e6,e7⟩
   ·cases e1
   ·cases e1;have N:a.modify (0+D) (fun e=>{e with key:=vk})=a.modify (0+D) fun e=>{e with key:=vk,val:=E.val}:=by
     apply Array.ext (by simp);intro i h1 h2;rw[Array.getElem_modify,Array.getElem_modify];split
     ·rename_i hi;have:a[i]'(by simpa using h1)=E:=by
       have:a[i]?=some E:=by rw[<-hi,<-Array.getElem?_toList,Nat.zero_add];exact e3
       exact(Array.getElem?_eq_some_iff.1 this).2
      rw[this]
     ·rfl
    obtain⟨w',rfl,U,I⟩:=uM Y (es':=es.set (0+D) (vk,A)) (a':=a.modify (0+D) fun e=>{e with key:=vk,val:=E.val}) hH hp hb (fun w' mu' j=>by
     rw[toList_modify];exact RvM.set (j _ _ e6) es a.toList 0 _ (RvM.of j 0 es _ J))
    have hj:a[0+D]?=some E:=by rw[<-Array.getElem?_toList,Nat.zero_add,e3]
    refine⟨.value (.tuple #[E.val,goInt ((0+D:Nat):Int)]),_,_,π,?_,.inl rfl,U,I,zG (Rv.ext U _ _ e6),fun _ _=>rfl⟩;simp only[Instr.mapEntry,Sem.run_bind,run_underlying hu,Result.andThen_ok,Go.MapKept.run_getObj_map hb,q,e2,hj,Option.map_some,Option.getD_some,stays e7,N,e5];simp[Go.MapKept.run_setObj_map _ hb]
  ·rename_i z hk hz hf;cases h;obtain⟨q,C⟩:=ni hk J hf;obtain⟨zv,a7,O⟩:=xa hz;rcases C with⟨_,e2⟩|⟨D,E,A2,e1,_⟩
   ·obtain⟨w',rfl,U,I⟩:=uM Y (es':=es++[(vk,z)]) (a':=a.push {key:=vk,val:=zv,born:=a.size}) hH hp hb (fun w' mu' j=>by
     have:=RvM.snoc (k:=vk) (O w' mu' π) es a.toList 0 (RvM.of j 0 es _ J);rw[Nat.zero_add,<-T]at this;simpa using this)
    refine⟨.value (.tuple #[zv,goInt ((es.length:Nat):Int)]),_,_,π,?_,.inl rfl,U,I,zG (O _ _ _),fun _ _=>rfl⟩;simp only[Instr.mapEntry,Sem.run_bind,run_underlying hu,Result.andThen_ok,Go.MapKept.run_getObj_map hb,q,e2,a7];simp[Go.MapKept.run_setObj_map _ hb,T]
   ·cases e1
  ·cases h
 ·cases h
theorem zg{k:IntKind}{n:Int}:(asInt (.int k n)).run P w=.ok n w:=by simp[asInt,asIntOf]
theorem RvM.born{mu:Nat->Prop}:∀(es:List (Value×AV)) (l:List MapEntry) (j i:Nat),RvM w mu π j es l->i<es.length->l.findIdx? (fun e=>(e.born:Int)==((j+i:Nat):Int))=some i
 |[],_,_,i,_,m=>by simp at m
 |(k',D)::es,_,j,i,h,m=>by
  obtain⟨e,z,rfl,h2,q,E,C⟩:=h;rw[List.findIdx?_cons];cases i with
  |zero=>simp[q]
  |succ i=>
   have:=RvM.born es z (j+1) i C (by simpa using m);rw[show j+1+i=j+(i+1)by omega]at this;rw[this];have:((e.born:Int)==((j+(i+1):Nat):Int))=false:=by rw[q];simp;omega
   rw[this];rfl
theorem uC(U:Inv out B w π H){t:TypeId}{m s x:AV}{Y vs q:Value}{r:bU}(hm:Rv w (aL out π H) π m Y)(hs:Rv w (aL out π H) π s vs)(hx:Rv w (aL out π H) π x q)(h:mD H m s x=some r):
  cV P out B w π H (do Instr.entryStore t Y vs q;pure .skip) r:=by
 unfold mD at h;split at h
 ·rename_i b es i C D;obtain⟨hH,p,a,rfl,hp,hb,E⟩:=nH U hm C;split at h
  ·rename_i k A h0 I;cases h;have h0:0<=i:=by simpa using h0
   obtain⟨sk,rfl⟩:=kK hs D;obtain⟨n,rfl⟩:∃n:Nat,i=n:=⟨i.toNat,by omega⟩;rw[Int.toNat_natCast]at I ⊢;obtain⟨en,g1,g2,g3,g4⟩:=RvM.get es a.toList 0 n k A E I;have J:n<es.length:=(List.getElem?_eq_some_iff.1 I).1;have N:=RvM.born es a.toList 0 n E J;have O:a.findIdx? (fun e=>(e.born:Int)==(n:Int))=some n:=by
    have e:a=a.toList.toArray:=rfl;rw[e,List.findIdx?_toArray];simpa using N
   have z:a.modify n (fun e=>{e with val:=q})=a.modify n fun e=>{e with key:=k,val:=q}:=by
    apply Array.ext (by simp);intro i h1 h2;rw[Array.getElem_modify,Array.getElem_modify];split
    ·rename_i D;have:a[i]'(by simpa using h1)=en:=by
      have:a[i]?=some en:=by rw[<-D,<-Array.getElem?_toList];exact g1
      exact(Array.getElem?_eq_some_iff.1 this).2
     rw[this,<-g2]
    ·rfl
   obtain⟨w',rfl,hE,T⟩:=uM U (es':=es.set n (k,x)) (a':=a.modify n fun e=>{e with key:=k,val:=q}) hH hp hb (fun w' mu' j=>by
    rw[toList_modify];exact RvM.set (j _ _ hx) es a.toList 0 _ (RvM.of j 0 es _ E))
   refine⟨.skip,undef,_,π,?_,.inr ⟨rfl,rfl⟩,hE,T,trivial,fun _ _=>rfl⟩;simp only[Instr.entryStore,Sem.run_bind,Go.MapKept.run_getObj_map hb,Result.andThen_ok,zg,O,z];simp[Go.MapKept.run_setObj_map _ hb]
  ·cases h
 ·cases h
theorem iK(m:Inv out B w π H){n:Nat}(z:n<=H.length)(p:Option PB)(x:Blk):∀j,(∀b,(j,b)∉[(n,x)])->(upd π n p)[j]?=π[j]?:=by
 intro j q;rw[gr (by have:=m.len;omega),if_neg];rintro rfl;exact q x (by simp)
theorem xl(z:Inv out B w π H){nid:Nat}(C:nid<=H.length)(I:∀q,π[nid]?≠some (some q)){t:TypeId}{r:Option AV}{j:Option Value}{x:bU}(D:match r,j with|none,none=>True|some r,some v=>Rv w (aL out π H) π r v|_,_=>False)(h:qz P nid t r=some x):
  cV P out B w π H (do pure (.value (<-Instr.makeMap t j))) x:=by
 have key:(Instr.makeMap t j).run P w=.ok (.map (some w.heap.size)) (w.alloc (.map #[] 0))/\x=.eff (.mp nid) [(nid,.map [])]:=by
  unfold qz at h;cases r with
  |none=>
   cases j with
   |none=>cases h;exact⟨by simp[Instr.makeMap],rfl⟩
   |some _=>exact D.elim
  |some r=>
   cases j with
   |none=>exact D.elim
   |some v=>
    simp only at h D;split at h
    ·rename_i q kt e hk hu;cases h;have:=sN D hk;subst this;exact⟨by simp[Instr.makeMap,run_underlying hu,asInt,asIntOf],rfl⟩
    ·cases h
 obtain⟨m,rfl⟩:=key;have J:=qp z (.map #[] 0) (.map []) ⟨w.heap.size,0,0,fun _=>none⟩ rfl C I;have E:=z.alloc (.map #[] 0) (.map []) ⟨w.heap.size,0,0,fun _=>none⟩ rfl C I ⟨#[],by show(w.heap.push _)[w.heap.size]?=_;simp,rfl⟩;refine⟨_,.map (some w.heap.size),_,_,by simp[m],.inl rfl,J,E,⟨_,jl z C _,rfl⟩,iK z C _ _⟩
theorem Hi{mu:Nat->Prop}(k:Value):Rv w mu π (IE k) k:=by
 cases k<;>first|exact⟨_,rfl,gQ _⟩|exact rfl
theorem ze(j:Inv out B w π H){nid:Nat}(z:nid<=H.length)(C:∀q,π[nid]?≠some (some q)){t:TypeId}{m:AV}{J:Value}{x:bU}(hm:Rv w (aL out π H) π m J)(h:ow P H nid t m=some x):
  cV P out B w π H (do pure (.value (<-Instr.range t J))) x:=by
 unfold ow at h;split at h
 ·rename_i kt e b es hu D;cases h;obtain⟨hH,p,a,rfl,hp,hb,N⟩:=nH j hm D;have O:a.size=es.length:=by have:=RvM.len es a.toList 0 N;simpa using this
  have E:b≠nid:=fun e=>C p (by rw[<-e];exact hp)
  have T:p.blk<w.heap.size:=(j.base b _ p hH hp rfl).2;have U:=qp j (.mapIter (some p.blk) a.size #[] a.size) (.iter b es.length []) ⟨w.heap.size,0,0,fun _=>none⟩ rfl z C;have I:=j.alloc (.mapIter (some p.blk) a.size #[] a.size) (.iter b es.length []) ⟨w.heap.size,0,0,fun _=>none⟩ rfl z C ⟨rfl,p,by rw[gr (by have:=j.len;omega),if_neg E];exact hp,by show(w.heap.push _)[w.heap.size]?=_;rw[<-O];simp⟩;refine⟨_,.pointer (some ⟨w.heap.size,0,none⟩),_,_,?_,.inl rfl,U,I,⟨_,jl j z _,rfl⟩,iK j z _ _⟩;simp only[Instr.range,Sem.run_bind,run_underlying hu,Result.andThen_ok,Go.MapKept.run_getObj_map hb,Sem.run_pure];rfl
 ·cases h
theorem u4(hI:Inv out B w π H){x:AV}{v:Value}{r:bU}(hx:Rv w (aL out π H) π x v)(h:jE H x=some r):cV P out B w π H (do pure (.value (<-Instr.entry v))) r:=by
 unfold jE at h;split at h
 ·rename_i m n seen z;unfold sD at z;split at z
  ·rename_i j;split at z
   ·rename_i m' n' N O;cases z;obtain⟨p,hp,rfl⟩:=hx;obtain⟨ho,q,hq,hh⟩:=hI.ok j _ p O hp;split at h
    ·rename_i es T;obtain⟨a,ha,U⟩:=hI.ok m _ q T hq;have hl:a.size=es.length:=by have:=RvM.len es a.toList 0 U;simpa using this
     split at h
     ·rename_i i Y C;split at h
      ·rename_i k A hi;cases h;have Y:es.length=n:=dcT Y;obtain⟨J,g1,g2,g3,g4⟩:=RvM.get es a.toList 0 i k A U hi;have D:seen.toArray.back?=some i:=by rw[<-C];simp[Array.back?,List.getLast?_eq_getElem?]
       have E:a.find? (fun e=>e.born==i)=some J:=by
        have a1:i<es.length:=(List.getElem?_eq_some_iff.1 hi).1;have a6:=RvM.born es a.toList 0 i U a1;rw[<-Array.find?_toList];have a7:a.toList.findIdx? (fun e=>e.born==i)=some i:=by
         rw[<-a6];congr 1;funext e;rw[Nat.zero_add,Bool.eq_iff_iff,beq_iff_eq,beq_iff_eq];omega
        rw[List.find?_eq_some_iff_getElem];have h3:=List.findIdx?_eq_some_iff_getElem.1 a7;obtain⟨h4,h5,h6⟩:=h3;have he:a.toList[i]=J:=(List.getElem?_eq_some_iff.1 g1).2;refine⟨by rw[<-he];exact h5,i,h4,he,fun j O=>by simpa using h6 j O⟩
       have I:(Instr.entry (.pointer (some ⟨p.blk,p.off+0,none⟩))).run P w=.ok (.tuple #[J.key,J.val]) w:=by
        rw[Nat.add_zero,ho];simp only[Instr.entry,getObj,Sem.run_bind,Sem.run,hh,ha,Result.andThen,D,hl,Y,bne_self_eq_false,Bool.false_eq_true,if_false,E];rfl
       exact cV.value I ⟨_,rfl,_,_,rfl,by rw[g2];exact Hi k,_,_,rfl,g4,rfl⟩
      ·cases h
     ·cases h
    ·cases h
   ·cases z
  ·cases z
 ·cases h
end
end Go.Eng


namespace Go.Eng
open Go Go.RowKit
variable[Dr]
section
variable{P:Program}{out:Nat->Prop}{B:Nat->Prop}{w:World}{π:List (Option PB)}{H:List Blk}
theorem Inv.same{w':World}(j:Inv out B w π H)(m:w'.heap=w.heap)(z:w'.os=w.os)(C:w'.tape=w.tape)(hu:w'.output=w.output)(hd:Dr.d=true->w.drawn<=w'.drawn):
  Ext B w w' (aL out π H) (aL out π H) π π/\Inv out B w' π H:=by
 have q:Ext B w w' (aL out π H) (aL out π H) π π:=⟨fun _ _=>by rw[m],by rw[m];exact Nat.le_refl _,fun b _ h=>⟨by rw[m],h⟩,fun _ _ h=>h,z,C,hu,hd⟩;exact⟨q,j.len,by rw[m];exact j.bound,j.out_lt,by rw[m];exact j.baseO,fun i x p h1 h2=>gT.ext q (fun _ _=>by rw[m]) (j.ok i x p h1 h2),j.sepO⟩
theorem B3(m:Inv out B w π H){nid:Nat}(C:nid<=H.length)(I:∀q,π[nid]?≠some (some q)){t:TypeId}{z:List AV}(J:mw P t=some z)(h1:z.all gY=true):
  cV P out B w π H (do pure (.value (<-Instr.alloc t true (.tuple #[])))) (.eff (.hp nid 0) [(nid,.own z)]):=by
 obtain⟨E,_,T,N,j,rfl⟩:=sV J w;obtain⟨O,D⟩:=nG m C I (E.cells.toList.map .at) E.cells t (gQ _) (all_zero h1);refine⟨_,.pointer (some ⟨w.heap.size,0,none⟩),_,_,by simp[Instr.alloc,j,newVar,newRow],.inl rfl,O,D,⟨_,jl m C _,rfl⟩,iK m C _ _⟩
theorem EG(j:Inv out B w π H){nid:Nat}(m:nid<=H.length)(C:∀q,π[nid]?≠some (some q)){t:TypeId}{x:AV}{v:Value}(hx:Rv w (aL out π H) π x v)(h1:(cellsOf x).all gY=true):
  cV P out B w π H (do pure (.value (<-Instr.box t v))) (.eff (.hp nid 0) [(nid,.own (cellsOf x))]):=by
 obtain⟨g1,g2⟩:=nr hx h1;obtain⟨D,z⟩:=nG j m C (cellsOf x) v.cells t g1 g2;exact⟨_,.pointer (some ⟨w.heap.size,0,none⟩),_,_,by simp[Instr.box,newVar,newRow],.inl rfl,D,z,⟨_,jl j m _,rfl⟩,iK j m _ _⟩
def Im(w:World)(mu:Nat->Prop)(π:List (Option PB))(ρ:Operand->AV)(ρc:Operand->Value)(l:List (Nat×Operand)):Prop:=
 RvL w mu π ((l.map fun p=>(p.1,ρ p.2)).map (·.2)) ((l.map fun p=>(p.1,ρc p.2)).map (·.2))
theorem tf{ρ:Operand->AV}{ρc:Operand->Value}{mu:Nat->Prop}(hρ:∀x,Rv w mu π (ρ x) (ρc x)):∀l:List (Nat×Operand),Im w mu π ρ ρc l
 |[]=>rfl
 |(_,x)::l=>⟨_,_,rfl,hρ x,tf hρ l⟩
theorem vF{ρ:Operand->AV}{ρc:Operand->Value}{mu:Nat->Prop}(hρ:∀x,Rv w mu π (ρ x) (ρc x)):∀l:List Operand,RvL w mu π (l.map ρ) (l.map ρc)
 |[]=>rfl
 |x::l=>⟨_,_,rfl,hρ x,vF hρ l⟩
theorem sQ{t:TypeId}{z:List AV}(h:mw P t=some z):∃j:Value,(∀w,(zeroValue t).run P w=.ok j w)/\z=j.cells.toList.map .at:=by
 unfold mw at h;split at h
 ·rename_i i m;split at h
  ·rename_i j q;cases h;exact⟨j,fun w=>by simp[zeroValue,typeInfo,m,q],rfl⟩
  ·cases h
 ·cases h
theorem wo(T:Inv out B w π H){nid:Nat}(j:nid<=H.length)(U:∀q,π[nid]?≠some (some q)){ρ:Operand->AV}{ρc:Operand->Value}(hρ:∀x,Rv w (aL out π H) π (ρ x) (ρc x)){t e:TypeId}{len n:Nat}{z cs:List AV}{parts:Array (Nat×Operand)}
  (hu:P.underlying t=some (.slice e)) (hn:gE P e=some n) (hz:mw P e=some z) (h1:len*n<=16777216) (h2:z.length=n) (h3:z.all gY=true)
  (hf:tL (fun i=>some (i*n,n)) (eY z len) (parts.toList.map fun p=>(p.1,ρ p.2))=some cs):
  cV P out B w π H (do pure (.value (<-Instr.buildSlice t len (parts.map fun(i,x)=>(i,ρc x))))) (.eff (.hs nid 0 len n) [(nid,.own cs)]):=by
 obtain⟨D,Y,rfl⟩:=sQ hz;have a1:D.cells.size=n:=by simpa using h2
 have a7:=all_zero h3;have m:∀z0:Array Value,(if len*n=0 then z0=#[]else z0=D.cells)->((Array.range (len*n)).map (z0[·%z0.size]!)).toList=(List.replicate len D.cells.toList).flatten:=by
  intro z0 N;by_cases E:len*n=0
  ·rw[if_pos E]at N;subst N;rw[E];rcases Nat.mul_eq_zero.1 E with e0|e0
   ·simp[e0]
   ·have:D.cells=#[]:=by rw[<-Array.size_eq_zero_iff];omega
    simp[this]
  ·rw[if_neg E]at N;subst N;have a6:0<D.cells.size:=by
    rw[a1];exact Nat.pos_of_ne_zero fun e0=>E (by rw[e0];simp)
   have:=mO D.cells len a6;rw[a1]at this;simpa [madeCells]using this
 have J:(parts.map fun p:Nat×Operand=>(p.1,ρc p.2)).toList=parts.toList.map fun p=>(p.1,ρc p.2):=by simp
 have fin:∀z0:Array Value,((Array.range (len*n)).map (z0[·%z0.size]!)).toList=(List.replicate len D.cells.toList).flatten->
   ∃I,Instr.fill (fun i=>some (i*n,n)) ((Array.range (len*n)).map (z0[·%z0.size]!)) (parts.map fun p:Nat×Operand=>(p.1,ρc p.2)).toList=some I/\RvL w (aL out π H) π cs I.toList/\(∀v∈I.toList,v.oneCell'=true)/\I.size=len*n:=by
  intro z0 N;obtain⟨I,r1,r2,r3,r4⟩:=pE (w:=w) (π:=π) (mu:=aL out π H) (place:=fun i=>some (i*n,n)) (parts.toList.map fun p=>(p.1,ρ p.2)) (parts.toList.map fun p=>(p.1,ρc p.2)) (eY (D.cells.toList.map .at) len)
   ((Array.range (len*n)).map (z0[·%z0.size]!)) cs (by simp) (tf hρ _) (by rw[N];exact tD _ _) (by rw[N];exact lO a7 _) hf
  exact⟨I,by rw[J];exact r1,r2,r4,by rw[r3];simp⟩
 have hle:¬16777216<len*n:=by omega
 by_cases E:len*n=0
 ·obtain⟨I,r1,r2,r3,r4⟩:=fin #[] (m #[] (by rw[if_pos E]));obtain⟨hE,O⟩:=nG T j U cs I e r2 r3;refine⟨_,.slice (some ⟨w.heap.size,0,none⟩) len len,_,_,?_,.inl rfl,hE,O,.inr ⟨_,_,_,jl T j _,rfl,Nat.le_refl _,rfl,fun _=>⟨rfl,?_⟩⟩,iK T j _ _⟩
  ·have C:¬len*n>2^24:=by simpa using hle
   simp only[Instr.buildSlice,Sem.run_bind,run_underlying hu,Result.andThen_ok,cn hn,Sem.run_ite,if_neg C,if_pos E,Sem.run_pure];rw[r1];rfl
  ·simp[r4]
 ·obtain⟨I,r1,r2,r3,r4⟩:=fin D.cells (m D.cells (by rw[if_neg E]));obtain⟨hE,O⟩:=nG T j U cs I e r2 r3;refine⟨_,.slice (some ⟨w.heap.size,0,none⟩) len len,_,_,?_,.inl rfl,hE,O,.inr ⟨_,_,_,jl T j _,rfl,Nat.le_refl _,rfl,fun _=>⟨rfl,?_⟩⟩,iK T j _ _⟩
  ·have C:¬len*n>2^24:=by simpa using hle
   simp only[Instr.buildSlice,Sem.run_bind,run_underlying hu,Result.andThen_ok,cn hn,Sem.run_ite,if_neg C,if_neg E,Y,Sem.run_pure];rw[r1];rfl
  ·simp[r4]
theorem uB{mu:Nat->Prop}{ρ:Operand->AV}{ρc:Operand->Value}(hρ:∀x,Rv w mu π (ρ x) (ρc x)){t:TypeId}{C:Array Field}{z cs:List AV}{pl:List (Nat×Nat)}{parts:Array (Nat×Operand)}
  (hu:P.underlying t=some (.struct C)) (J:mw P t=some z) (hp:tw P C.toList=some pl) (h1:z.all gY=true) (N:tL (fun i=>pl[i]?) z (parts.toList.map fun p=>(p.1,ρ p.2))=some cs):
  ∃u,(Instr.build t (parts.map fun(i,x)=>(i,ρc x))).run P w=.ok u w/\Rv w mu π (.agg cs) u:=by
 obtain⟨E,q,rfl⟩:=sQ J;obtain⟨I,r1,r2,r3,r4⟩:=pE (w:=w) (π:=π) (mu:=mu) (place:=fun i=>pl[i]?) (parts.toList.map fun p:Nat×Operand=>(p.1,ρ p.2)) (parts.toList.map fun p:Nat×Operand=>(p.1,ρc p.2)) (E.cells.toList.map .at) E.cells cs (by simp) (tf hρ parts.toList) (gQ _) (all_zero h1) N;have j:(parts.map fun p:Nat×Operand=>(p.1,ρc p.2)).toList=parts.toList.map fun p=>(p.1,ρc p.2):=by simp
 refine⟨.agg I,?_,I,rfl,r2⟩;have D:(C.mapM (m:=Sem) fun f=>do pure (f.offset,<-sizeOf f.type)).run P w=.ok pl.toArray w:=by
  rw[Array.mapM_eq_mapM_toList];have:=tN (P:=P) w C.toList pl hp;simp only[Sem.run_map,this,Result.andThen_ok]
 simp only[Instr.build,Sem.run_bind,q,Result.andThen_ok,run_underlying hu,D,j];have e:(fun x:Nat=>pl.toArray[x]?)=(fun i:Nat=>pl[i]?):=by funext i;simp
 simp only[e,r1];rfl
theorem vH{mu:Nat->Prop}{ρ:Operand->AV}{ρc:Operand->Value}(hρ:∀x,Rv w mu π (ρ x) (ρc x)){t e:TypeId}{len n:Nat}{z cs:List AV}{parts:Array (Nat×Operand)}
  (hu:P.underlying t=some (.array len e)) (D:mw P t=some z) (E:gE P e=some n) (h1:z.all gY=true) (I:tL (fun i=>some (i*n,n)) z (parts.toList.map fun p=>(p.1,ρ p.2))=some cs):
  ∃u,(Instr.build t (parts.map fun(i,x)=>(i,ρc x))).run P w=.ok u w/\Rv w mu π (.agg cs) u:=by
 obtain⟨q,m,rfl⟩:=sQ D;obtain⟨C,r1,r2,r3,r4⟩:=pE (w:=w) (π:=π) (mu:=mu) (place:=fun i=>some (i*n,n)) (parts.toList.map fun p:Nat×Operand=>(p.1,ρ p.2)) (parts.toList.map fun p:Nat×Operand=>(p.1,ρc p.2)) (q.cells.toList.map .at) q.cells cs (by simp) (tf hρ parts.toList) (gQ _) (all_zero h1) I;have j:(parts.map fun p:Nat×Operand=>(p.1,ρc p.2)).toList=parts.toList.map fun p=>(p.1,ρc p.2):=by simp
 refine⟨.agg C,?_,C,rfl,r2⟩;simp only[Instr.build,Sem.run_bind,m,Result.andThen_ok,run_underlying hu,cn E,j];rw[r1];rfl
theorem xn(D:Inv out B w π H){nid:Nat}(j:nid<=H.length)(E:∀q,π[nid]?≠some (some q)){t e:TypeId}{kl kc:IntKind}{l c:Int}{n by_:Nat}{z:List AV}(hu:P.underlying t=some (.slice e))(hn:gE P e=some n)(hb:qU P e=some by_)(hz:mw P e=some z)
  (h0:0<=l) (I:l<=c) (J:(by_:Int)*c<=281474976710656) (N:c<=9223372036854775807) (O:z.length=n) (a8:0<n) (h3:z.all gY=true):
  cV P out B w π H (do pure (.value (<-Instr.makeSlice t (.int kl l) (.int kc c)))) (.eff (.hs nid 0 l.toNat n) [(nid,.own (eY z c.toNat))]):=by
 obtain⟨m,i,T,U,a7,rfl⟩:=sV hz w;have C:i.size=n:=by simpa [gE,T]using hn
 have Y:i.bytes=by_:=by simpa [qU,T]using hb
 have a1:m.cells.size=n:=by simpa using O
 have hm:=run_make (P:=P) w t e i m hu T U kl kc l c h0 I (by rw[Y];exact J) N;have he:(madeCells m.cells (c.toNat*i.size)).toList=(List.replicate c.toNat m.cells.toList).flatten:=by
  rw[C,<-a1];exact mO m.cells c.toNat (by omega)
 obtain⟨hE,a6⟩:=nG D j E (eY (m.cells.toList.map .at) c.toNat) (madeCells m.cells (c.toNat*i.size)) e (by rw[he];exact tD _ _) (by rw[he];exact lO (all_zero h3) _);exact⟨_,.slice (some ⟨w.heap.size,0,none⟩) l.toNat c.toNat,_,_,by simp[hm],.inl rfl,hE,a6,.inr ⟨_,_,_,jl D j _,rfl,by omega,rfl,fun _=>⟨rfl,by simp[size_madeCells,C]⟩⟩,iK D j _ _⟩
end
section
variable{P:Program}{out:Nat->Prop}{B:Nat->Prop}{w:World}{π:List (Option PB)}{H:List Blk}
theorem qu(J:Inv out B w π H){n:Nat}{x:AV}{v:Value}{cs:List AV}{m:Nat}(hx:Rv w (aL out π H) π x v)(h:jj H n x=some (cs,m)):
  ∃a cap,v=.slice a m cap/\(a=none->m=0)/\m<=cap/\∃vs:List Value,vs.length=m*n/\RvL w (aL out π H) π cs vs/\(∀u∈vs,u.oneCell'=true)/\(∀b,a=some b->∀j u,vs[j]?=some u->w.cell? (b.add j)=some u):=by
 unfold jj at h;split at h
 ·cases h;cases hx;exact⟨none,0,rfl,fun _=>rfl,Nat.le_refl _,[],by simp,rfl,by simp,fun b hb=>by cases hb⟩
 ·rename_i nl c len;split at h
  ·rename_i E;simp only[decide_eq_true_eq]at E;cases h;rcases hx with⟨_,rfl,rfl,rfl⟩|⟨b,o,cap,rfl,h2,I,N⟩|⟨rfl,rfl,a,cap,rfl⟩
   rotate_left 2
   ·exact⟨some a,cap,rfl,fun _=>rfl,Nat.zero_le _,[],by simp,rfl,by simp,fun b hb j u C=>by simp at C⟩
   ·exact⟨none,0,rfl,fun _=>rfl,Nat.le_refl _,[],by simp,rfl,by simp,fun b hb=>by cases hb⟩
   ·obtain⟨vs,g1,g2,g3,g4⟩:=tc N.lift (Nat.le_refl _);rw[List.take_length]at g2;exact⟨_,cap,rfl,(fun e=>by cases e),h2,vs,by rw[g1];exact E,g2,g3,fun T D=>by cases D;exact g4⟩
  ·cases h
 ·rename_i i off len es;rcases hx with⟨rfl,rfl⟩|⟨p,a,cap,h1,rfl,h2,O,I⟩
  ·have:cs=[]/\m=0:=by
    split at h
    ·split at h
     ·cases h;simp
     ·cases h
    ·split at h
     ·cases h;simp
     ·cases h
    ·cases h
   obtain⟨rfl,rfl⟩:=this;exact⟨none,0,rfl,fun _=>rfl,Nat.le_refl _,[],by simp,rfl,by simp,fun b hb=>by cases hb⟩
  have key:∀c:List AV,(H[i]?=some (.own c)\/H[i]?=some (.fix c))->off+len*n<=c.length->cs=(c.drop off).take (len*n)->m=len->
    ∃a' q,Value.slice (some a) len cap=.slice a' m q/\(a'=none->m=0)/\m<=q/\∃vs:List Value,vs.length=m*n/\RvL w (aL out π H) π cs vs/\(∀u∈vs,u.oneCell'=true)/\(∀b,a'=some b->∀j u,vs[j]?=some u->w.cell? (b.add j)=some u):=by
   intro c hc hle e1 e2;subst e1;subst e2;obtain⟨vs,g1,g2,g3,g4⟩:=tc (n:=m*n) (RvC.drop off c _ _ (gb J hc h1)) (by simp;omega);refine⟨_,cap,rfl,(fun e=>by cases e),h2,vs,g1,g2,g3,fun b hb=>?_⟩;cases hb;intro j u C;by_cases z:0<cap
   ·rw[(I z).1];exact g4 j u C
   ·have : vs.length = 0 := by rw[g1];have:m=0:=by omega
                               simp[this]
    rw[List.length_eq_zero_iff]at this;subst this;simp at C
  split at h
  ·rename_i c hc;split at h
   ·rename_i hle;cases h;exact key c (.inl hc) (by simpa using hle) rfl rfl
   ·cases h
  ·rename_i c hc;split at h
   ·rename_i hle;cases h;exact key c (.inr hc) (by simpa using hle) rfl rfl
   ·cases h
  ·cases h
 ·cases h
theorem jI{n m cap:Nat}{a:Option Addr}{vs:List Value}(w:World)(q:vs.length=m*n)(z:a=none->m=0)(h:∀b,a=some b->∀j u,vs[j]?=some u->w.cell? (b.add j)=some u):
  (Builtin.firstCells n m (.slice a m cap)).run P w=.ok vs.toArray w:=by
 cases a with
 |none=>
  have:vs=[]:=by rw[<-List.length_eq_zero_iff,q,z rfl];simp
  subst this;rfl
 |some b=>exact run_firstCells_some w n m b m cap vs q (h b rfl)
theorem Ak(hI:Inv out B w π H){nid:Nat}(D:nid<=H.length)(b3:∀q,π[nid]?≠some (some q)){t t' e e' ty:TypeId}{n by_:Nat}{z:List AV}{s x:AV}{vs vx:Value}{r:bU}(ht:P.underlying t=some (.slice e))(b7:P.underlying t'=some (.slice e'))
  (hn:gE P e=some n) (hb:qU P e=some by_) (hz:mw P e=some z) (e8:z.length=n) (hs:Rv w (aL out π H) π s vs) (hx:Rv w (aL out π H) π x vx) (h:my H nid n by_ s x=some r):
  cV P out B w π H (do pure (.value (<-Builtin.append_ #[t,t'] ty #[vs,vx]))) r:=by
 obtain⟨zv,i,hi,c7,l3,rfl⟩:=sV hz w;have c8:i.size=n:=by simpa [gE,hi]using hn
 have c9:i.bytes=by_:=by simpa [qU,hi]using hb
 unfold my at h;split at h
 ·cases h
 ·rename_i new m hc;obtain⟨a,cap,rfl,h0,h1,us,b8,U,a7,c4⟩:=qu hI hx hc;have e3:=jI (P:=P) (cap:=cap) w b8 h0 c4;have c6:=jI (P:=P) (cap:=cap) w.drew b8 h0 (by simpa using c4);have nothing:m=0->us=[]/\new=[]:=by
   intro hm;have j5:us=[]:=by rw[<-List.length_eq_zero_iff,b8,hm];simp
   subst j5;have:=RvL.length _ _ U;exact⟨rfl,by rw[<-List.length_eq_zero_iff];simpa using this.symm⟩
  have fin:m=0->∀(b:Option Addr) (l c:Nat),l<=c->(Builtin.append_ #[t,t'] ty #[.slice b l c,.slice a m cap]).run P w=.ok (.slice b l c) w:=by
   intro hm b l c j6;obtain⟨rfl,_⟩:=nothing hm;subst hm;cases b with
   |none=>simp[Builtin.append_,run_underlying ht,run_underlying b7,cn hn,Builtin.lenOf,j6,e3]
   |some b=>simp[Builtin.append_,run_underlying ht,run_underlying b7,cn hn,Builtin.lenOf,j6,e3,storeCells]
  by_cases e4:m=0
  ·
   obtain⟨l4,h6⟩:=nothing e4;have b6:=fin e4;clear e3 c6 nothing fin b8 U a7 c4;split at h
   ·split at h
    ·cases h;cases hs;obtain⟨T,I⟩:=hI.xH D b3 (.own new);refine⟨_,.slice none 0 0,w,upd π nid none,by simp only[Sem.run_bind,b6 none 0 0 (Nat.le_refl _),Result.andThen_ok];rfl,.inl rfl,T,I,.inl ⟨e4,rfl⟩,iK hI D _ _⟩
    ·cases h
   ·split at h
    ·cases h;have h7:=hs;rcases hs with⟨rfl,rfl,rfl,rfl⟩|⟨b,o,c,rfl,g2,_⟩|⟨rfl,rfl,a,c,rfl⟩
     ·exact cV.value (b6 _ _ _ (Nat.le_refl _)) h7
     ·exact cV.value (b6 _ _ _ g2) h7
     ·exact cV.value (b6 _ _ _ (Nat.zero_le _)) h7
    ·cases h
   ·rename_i i' off len es;split at h
    ·rename_i cs hH;split at h
     ·rename_i E;simp only[Bool.and_eq_true,decide_eq_true_eq]at E;obtain⟨⟨⟨⟨rfl,k0⟩,k1⟩,k2⟩,k3⟩:=E;cases h;subst e4;subst h6;rcases hs with⟨rfl,rfl⟩|⟨p,b,C,b1,rfl,h2,h8,h3⟩
      ·obtain⟨a6,b5⟩:=hI.kill i' (w':=w) rfl rfl rfl rfl (fun _=>Nat.le_refl _);obtain⟨T,I⟩:=b5.xH (by simpa using D) b3 (.own ((cs.drop off).take (0*es)++[]));have O:aR H [(i',.dead),(nid,.own ((cs.drop off).take (0*es)++[]))]=upd (H.set i' .dead) nid (.own ((cs.drop off).take (0*es)++[])):=by simp[aR,upd,aT hH]
       rw[<-O]at T I;exact⟨_,.slice none 0 0,w,upd π nid none,by simp only[Sem.run_bind,b6 none 0 0 (Nat.le_refl _),Result.andThen_ok];rfl,.inl rfl,a6.trans T,I,.inl ⟨rfl,rfl⟩,fun j N=>iK hI D none (.own ((cs.drop off).take (0*es)++[])) j (fun b hb=>N b (by simp at hb ⊢;exact .inr hb))⟩
      ·obtain⟨⟨c,te,J,e9⟩,hC⟩:=hI.ok i' _ p hH b1;obtain⟨T,I⟩:=hI.grow hH b1 rfl (.own ((cs.drop off).take (len*es)++[])) ⟨p.blk,p.off+off,p.size,fun _=>none⟩ rfl D b3 (w':=w) rfl (fun _ _=>rfl) rfl rfl rfl (fun _=>Nat.le_refl _) (fun T=>by
        refine⟨⟨c,te,J,e9⟩,?_⟩;have k7:=RvC.ext T ((cs.drop off).take (len*es)) _ _ rfl (RvC.take (len*es) _ _ _ (RvC.drop off cs _ _ hC));simpa using k7)
       have O:aR H [(i',.dead),(nid,.own ((cs.drop off).take (len*es)++[]))]=upd (H.set i' .dead) nid (.own ((cs.drop off).take (len*es)++[])):=by simp[aR,upd,aT hH]
       rw[<-O]at T I;refine⟨_,.slice (some b) len C,w,_,by simp only[Sem.run_bind,b6 (some b) len C h2,Result.andThen_ok];rfl,.inl rfl,T,I,.inr ⟨⟨p.blk,p.off+off,p.size,fun _=>none⟩,b,C,jl hI D _,rfl,by omega,h8,fun k8=>?_⟩,fun j N=>iK hI D _ (.own ((cs.drop off).take (len*es)++[])) j (fun b hb=>N b (by simp at hb ⊢;exact .inr hb))⟩;obtain⟨e1,e2⟩:=h3 k8;exact⟨by rw[e1,Nat.add_zero],by simpa using e2⟩
     ·cases h
    ·split at h
     ·rename_i E;simp only[Bool.and_eq_true,decide_eq_true_eq]at E;omega
     ·cases h
    ·cases h
   ·cases h
  obtain⟨m,rfl⟩:∃m',m=m'+1:=⟨m-1,by omega⟩;clear fin nothing e4;change us.length=(m+1)*n at b8;split at h
  ·
   split at h
   ·rename_i E;simp only[Bool.and_eq_true,decide_eq_true_eq]at E;obtain⟨⟨k1,k2⟩,k3⟩:=E;cases h;cases hs;have a8:=growslice_fits (need:=m+1) (old:=0) (bytes:=by_) (by omega) k1;have g1:¬9223372036854775807<((m:Int)+1):=by omega
    have g2:¬281474976710656<Builtin.nextslicecap (m+1) 0*by_:=by omega
    obtain⟨a6,b5⟩:=hI.same (w':=w.drew) rfl rfl rfl rfl (fun _=>Nat.le_succ _);have hlen:=RvL.length _ _ U;obtain⟨T,I⟩:=vD b5 D b3 new (us.toArray++Builtin.zeroCells zv.cells (grownCap w (m+1) 0 e-(m+1))) e (by
      have:(us.toArray++Builtin.zeroCells zv.cells (grownCap w (m+1) 0 e-(m+1))).toList.take new.length=us:=by simp[<-hlen]
      rw[this];exact RvL.ext a6 _ _ U) (by
      have:(us.toArray++Builtin.zeroCells zv.cells (grownCap w (m+1) 0 e-(m+1))).toList.take new.length=us:=by simp[<-hlen]
      rw[this];exact a7)
    have b9:m+1<=grownCap w (m+1) 0 e:=by simp[grownCap,Question.cut]
    have b0:zv.cells.size=n:=by simpa using e8
    have e0:(grownCap w (m+1) 0 e-(m+1))*n+(m+1)*n=grownCap w (m+1) 0 e*n:=by rw[<-Nat.add_mul];congr 1;omega
    refine⟨_,.slice (some ⟨w.heap.size,0,none⟩) (m+1) (grownCap w (m+1) 0 e),_,_,?_,.inl rfl,a6.trans T,I,.inr ⟨_,_,_,jl hI D _,rfl,b9,rfl,fun _=>⟨rfl,?_⟩⟩,iK hI D _ _⟩
    ·simp[Builtin.append_,run_underlying ht,run_underlying b7,sizeOf,typeInfo,zeroValue,hi,c7,Builtin.lenOf,c8,c9,g1,g2,Question.forced,run_firstCells_none,c6,newRow,grownCap]
    ·simp only[Array.size_append,List.size_toArray,b8,size_zeroCells,b0];omega
   ·cases h
  ·split at h
   ·rename_i h9;simp at h9
   ·cases h
  ·
   rename_i i' off len es;split at h
   ·rename_i cs hH;split at h
    ·rename_i E;simp only[Bool.and_eq_true,decide_eq_true_eq]at E;obtain⟨⟨⟨⟨rfl,k0⟩,k1⟩,k2⟩,k3⟩:=E;cases h;rcases hs with⟨rfl,rfl⟩|⟨p,b,C,b1,rfl,h2,h8,h3⟩
     ·
      have a8:=growslice_fits (need:=m+1) (old:=0) (bytes:=by_) (by omega) (by simpa using k2);have g1:¬9223372036854775807<((m:Int)+1):=by omega
      have g2:¬281474976710656<Builtin.nextslicecap (m+1) 0*by_:=by omega
      obtain⟨a6,b5⟩:=hI.kill i' (w':=w.drew) rfl rfl rfl rfl (fun _=>Nat.le_succ _);have hlen:=RvL.length _ _ U;obtain⟨T,I⟩:=vD b5 (by simpa using D) b3 ((cs.drop off).take (0*es)++new) (us.toArray++Builtin.zeroCells zv.cells (grownCap w (m+1) 0 e-(m+1))) e (by
        have:(us.toArray++Builtin.zeroCells zv.cells (grownCap w (m+1) 0 e-(m+1))).toList.take ((cs.drop off).take (0*es)++new).length=us:=by simp[<-hlen]
        rw[this];simpa using RvL.ext a6 _ _ U) (by
        have:(us.toArray++Builtin.zeroCells zv.cells (grownCap w (m+1) 0 e-(m+1))).toList.take ((cs.drop off).take (0*es)++new).length=us:=by simp[<-hlen]
        rw[this];exact a7)
      have b9:m+1<=grownCap w (m+1) 0 e:=by simp[grownCap,Question.cut]
      have b0:zv.cells.size=es:=by simpa using e8
      have e0:(grownCap w (m+1) 0 e-(m+1))*es+(m+1)*es=grownCap w (m+1) 0 e*es:=by rw[<-Nat.add_mul];congr 1;omega
      have O:aR H [(i',.dead),(nid,.own ((cs.drop off).take (0*es)++new))]=aR (H.set i' .dead) [(nid,.own ((cs.drop off).take (0*es)++new))]:=by simp[aR,upd,aT hH]
      rw[<-O]at T I;refine⟨_,.slice (some ⟨w.heap.size,0,none⟩) (m+1) (grownCap w (m+1) 0 e),_,_,?_,.inl rfl,a6.trans T,I,.inr ⟨_,⟨w.heap.size,0,none⟩,grownCap w (m+1) 0 e,jl hI D _,by rw[Nat.zero_add],by rw[Nat.zero_add];exact b9,rfl,fun _=>⟨rfl,?_⟩⟩,fun j N=>iK hI D _ (.own ((cs.drop off).take (0*es)++new)) j (fun b hb=>N b (by simp at hb ⊢;exact .inr hb))⟩
      ·simp[Builtin.append_,run_underlying ht,run_underlying b7,sizeOf,typeInfo,zeroValue,hi,c7,Builtin.lenOf,c8,c9,g1,g2,Question.forced,run_firstCells_none,c6,newRow,grownCap]
      ·simp only[Array.size_append,List.size_toArray,b8,size_zeroCells,b0];omega
     obtain⟨⟨c,te,J,e9⟩,hC⟩:=hI.ok i' _ p hH b1;have b0:zv.cells.size=es:=by simpa using e8
     obtain⟨os,o1,o2,o3,o4⟩:=tc (n:=len*es) (RvC.drop off cs _ _ hC) (by simp;omega);have b4:∀(w':World),(∀ad,w'.cell? ad=w.cell? ad)->∀b',some b=some b'->∀j u,os[j]?=some u->w'.cell? (b'.add j)=some u:=by
      intro w' j0 b' c3 j u N;cases c3;rw[j0];by_cases e5:0<C
      ·rw[(h3 e5).1];exact o4 j u N
      ·have:os.length=0:=by
        rw[o1];have:len=0:=by omega
        simp[this]
       rw[List.length_eq_zero_iff]at this;subst this;simp at N
     by_cases Y:len+(m+1)<=C
     ·
      obtain⟨c3,a8⟩:=h3 (by omega);subst c3;have hK:p.off+off+len*es+us.length<=c.size:=by
       rw[b8,e9];have:len*es+(m+1)*es<=C*es:=by rw[<-Nat.add_mul];exact Nat.mul_le_mul_right _ Y
       omega
      have e6:=run_storeCells_at P p.blk (p.off+off+len*es) te us 0 c w J (by simpa using hK) a7;simp only[Nat.add_zero]at e6;have c5:(Builtin.append_ #[t,t'] ty #[.slice (some ⟨p.blk,p.off+off,none⟩) len C,.slice a (m+1) cap]).run P w=
        .ok (.slice (some ⟨p.blk,p.off+off,none⟩) (len+(m+1)) C) (w.setRow p.blk (c.toList.take (p.off+off+len*es)++us++c.toList.drop (p.off+off+len*es+us.length)).toArray):=by
       simp[Builtin.append_,run_underlying ht,run_underlying b7,cn hn,Builtin.lenOf,Y,e3,gX,e6]
      obtain⟨T,I⟩:=hI.grow hH b1 rfl (.own ((cs.drop off).take (len*es)++new)) ⟨p.blk,p.off+off,p.size,fun _=>none⟩ rfl D b3 (w':=w.setRow p.blk (c.toList.take (p.off+off+len*es)++us++c.toList.drop (p.off+off+len*es+us.length)).toArray)
       (by simp) (fun b hb=>by simp only[World.setRow,Array.getElem?_modify];rw[if_neg (by omega)]) rfl rfl rfl (fun _=>Nat.le_refl _) (fun T=>by
        refine⟨⟨_,te,setRow_heap w _ c _ te _ J,?_⟩,?_⟩
        ·simp;omega
        ·refine iV _ (os++us) _ _ (RvL.append _ _ _ _ (RvL.ext T _ _ o2) (RvL.ext T _ _ U)) ?_ ?_
         ·intro u hu;rcases List.mem_append.1 hu with hu|hu
          ·exact o3 u hu
          ·exact a7 u hu
         ·intro j u N;simp only[World.cell?,setRow_heap w _ c _ te _ J];simp only[Option.isSome_none,Bool.false_eq_true,if_false,List.getElem?_toArray];have c0:(c.toList.take (p.off+off+len*es)).length=p.off+off+len*es:=by simp;omega
          rw[List.append_assoc];by_cases h4:j<os.length
          ·rw[List.getElem?_append_left h4]at N;rw[List.getElem?_append_left (by rw[c0];omega),List.getElem?_take,if_pos (by omega)];have:=o4 j u N;rw[gX]at this;simp only[World.cell?,J]at this;simpa using this
          ·rw[List.getElem?_append_right (by omega)]at N;rw[List.getElem?_append_right (by rw[c0];omega),c0,show p.off+off+j-(p.off+off+len*es)=j-os.length by omega];rw[List.getElem?_append_left (aT N)];exact N)
      have O:aR H [(i',.dead),(nid,.own ((cs.drop off).take (len*es)++new))]=upd (H.set i' .dead) nid (.own ((cs.drop off).take (len*es)++new)):=by simp[aR,upd,aT hH]
      rw[<-O]at T I;refine⟨_,.slice (some ⟨p.blk,p.off+off,none⟩) (len+(m+1)) C,_,_,by simp only[Sem.run_bind,c5,Result.andThen_ok];rfl,.inl rfl,T,I,.inr ⟨_,_,_,jl hI D _,rfl,Y,rfl,fun _=>⟨rfl,?_⟩⟩,fun j N=>iK hI D _ (.own ((cs.drop off).take (len*es)++new)) j (fun b hb=>N b (by simp at hb ⊢;exact .inr hb))⟩;simpa using a8
     ·
      have a8:=growslice_fits (need:=len+(m+1)) (old:=C) (bytes:=by_) (by omega) k2;have g1:¬9223372036854775807<((len:Int)+((m:Int)+1)):=by omega
      have g2:¬281474976710656<Builtin.nextslicecap (len+(m+1)) C*by_:=by omega
      obtain⟨a6,b5⟩:=Inv.rm hI hH b1 rfl .dead (w':=w.drew) rfl (fun _ _=>rfl) rfl rfl rfl (fun _=>Nat.le_succ _) (fun _=>trivial);have hlen:=RvL.length _ _ U;have j1:=jI (P:=P) (cap:=C) (a:=some b) w.drew o1 (fun e=>by cases e) (b4 w.drew (fun _=>by simp));have j2:=RvL.length _ _ o2;have j7:(os.toArray++us.toArray++Builtin.zeroCells zv.cells (grownCap w (len+(m+1)) C e-(len+(m+1)))).toList.take ((cs.drop off).take (len*es)++new).length=os++us:=by
       simp only[Array.toList_append,List.length_append];rw[<-j2,<-hlen,<-List.length_append,List.take_left]
      obtain⟨T,I⟩:=vD b5 (by simpa using D) b3 ((cs.drop off).take (len*es)++new) (os.toArray++us.toArray++Builtin.zeroCells zv.cells (grownCap w (len+(m+1)) C e-(len+(m+1)))) e
       (by rw[j7];exact RvL.ext a6 _ _ (RvL.append _ _ _ _ o2 U)) (by
        rw[j7];intro u hu;rcases List.mem_append.1 hu with hu|hu
        ·exact o3 u hu
        ·exact a7 u hu)
      have b9:len+(m+1)<=grownCap w (len+(m+1)) C e:=by simp[grownCap,Question.cut]
      have e0:(grownCap w (len+(m+1)) C e-(len+(m+1)))*es+(len*es+(m+1)*es)=grownCap w (len+(m+1)) C e*es:=by
       rw[<-Nat.add_mul,<-Nat.add_mul];congr 1;omega
      have O:aR H [(i',.dead),(nid,.own ((cs.drop off).take (len*es)++new))]=aR (H.set i' .dead) [(nid,.own ((cs.drop off).take (len*es)++new))]:=by simp[aR,upd,aT hH]
      rw[<-O]at T I;refine⟨_,.slice (some ⟨w.heap.size,0,none⟩) (len+(m+1)) (grownCap w (len+(m+1)) C e),_,_,?_,.inl rfl,a6.trans T,I,.inr ⟨_,_,_,jl hI D _,rfl,b9,rfl,fun _=>⟨rfl,?_⟩⟩,fun j N=>iK hI D _ (.own ((cs.drop off).take (len*es)++new)) j (fun b hb=>N b (by simp at hb ⊢;exact .inr hb))⟩
      ·simp[Builtin.append_,run_underlying ht,run_underlying b7,sizeOf,typeInfo,zeroValue,hi,c7,Builtin.lenOf,c8,c9,g1,g2,Y,Question.forced,j1,c6,newRow,grownCap];congr 2;apply Array.ext';simp[List.append_assoc]
      ·simp only[Array.size_append,List.size_toArray,o1,b8,size_zeroCells,b0];omega
    ·cases h
   ·
    rename_i rs hH;split at h
    ·rename_i E;simp only[Bool.and_eq_true,decide_eq_true_eq]at E;obtain⟨⟨⟨⟨⟨⟨rfl,rfl⟩,rfl⟩,k1⟩,k2⟩,k3⟩,_⟩:=E;cases h;have h5:us.length=m+1:=by omega
     have hlen:=RvL.length _ _ U;have b0:zv.cells.size=1:=by simpa using e8
     have O:aR H [(i',.dead),(nid,.rows (rs.take len++new.map .av))]=upd (H.set i' .dead) nid (.rows (rs.take len++new.map .av)):=by simp[aR,upd,aT hH]
     have a1:∀{k e7 es':Nat} {cs':List AV},(rs.take len++new.map RC.av)[k]?=some (.row e7 es' cs')->rs[k]?=some (.row e7 es' cs'):=by
      intro k e7 es' cs' h;by_cases hk:k<(rs.take len).length
      ·rw[List.getElem?_append_left hk,List.getElem?_take]at h;split at h
       ·exact h
       ·cases h
      ·rw[List.getElem?_append_right (by omega),List.getElem?_map]at h;cases hn:new[k-(rs.take len).length]? with
       |none=>rw[hn]at h;cases h
       |some z=>rw[hn]at h;cases h
     have cells:∀(w':World) (mu':Nat->Prop) (π':List (Option PB)) (os:List Value) (ss:Nat->Option (Nat×Nat×Nat)) (nb no:Nat),Ext B w w' (aL out π H) mu' π π'->os.length=len->
       (∀j u,os[j]?=some u->∃x,rs[j]?=some x/\RcV w (aL out π H) π (ss j) x u)->(∀k len es cs q,rs[k]?=some (RC.row len es cs)->ss k=some q->w'.heap[q.1]?=w.heap[q.1]?)->
       (∀j u,(os++us)[j]?=some u->w'.cell? ⟨nb,no+j,none⟩=some u)->RvW w' mu' π' (rs.take len++new.map .av) ss nb no:=by
      intro w' mu' π' os ss nb no T j2 k9 hq hc;refine RvW.of _ _ _ _ fun k x hk=>?_
      by_cases l0:k<len
      ·have l1:k<(rs.take len).length:=by simp;omega
       rw[List.getElem?_append_left l1,List.getElem?_take,if_pos l0]at hk;obtain⟨u,hu⟩:∃u,os[k]?=some u:=⟨os[k],geT (by omega)⟩;obtain⟨x',x1,x2⟩:=k9 k u hu;rw[hk]at x1;cases x1;refine⟨u,hc k u (by rw[List.getElem?_append_left (by omega)];exact hu),x2.ext T fun len es cs q e1 e2=>?_⟩;subst e1;exact hq k len es cs q hk e2
      ·have c0:(rs.take len).length=len:=by simp;omega
       rw[List.getElem?_append_right (by omega),c0,List.getElem?_map]at hk;cases hn:new[k-len]? with
       |none=>rw[hn]at hk;cases hk
       |some A=>
        rw[hn]at hk;cases hk;obtain⟨u,u1,u2⟩:=RvL.get _ _ _ _ U hn;exact⟨u,hc k u (by rw[List.getElem?_append_right (by omega),j2];exact u1),a7 u (List.mem_of_getElem? u1),Rv.ext T A u u2⟩
     rcases hs with⟨rfl,rfl⟩|⟨p,b,C,b1,rfl,h2,h8,h3⟩
     ·
      have a8:=growslice_fits (need:=m+1) (old:=0) (bytes:=by_) (by omega) (by simpa using k2);have g1:¬9223372036854775807<((m:Int)+1):=by omega
      have g2:¬281474976710656<Builtin.nextslicecap (m+1) 0*by_:=by omega
      obtain⟨a6,b5⟩:=hI.kill i' (w':=w.drew) rfl rfl rfl rfl (fun _=>Nat.le_succ _);have j8:∀b',(Blk.rows (rs.take 0++new.map .av)).owns ⟨w.heap.size,0,(us.toArray++Builtin.zeroCells zv.cells (grownCap w (m+1) 0 e-(m+1))).size,fun _=>none⟩ b'->w.heap.size=b':=by
       rintro b' (h|⟨k,l',e',c',q,_,h,_⟩)
       ·exact h
       ·cases h
      have j3:=qp b5 (.cells (us.toArray++Builtin.zeroCells zv.cells (grownCap w (m+1) 0 e-(m+1))) e) (.rows (rs.take 0++new.map .av)) ⟨w.heap.size,0,(us.toArray++Builtin.zeroCells zv.cells (grownCap w (m+1) 0 e-(m+1))).size,fun _=>none⟩ rfl (by simpa using D) b3 j8;have j9:=b5.alloc (.cells (us.toArray++Builtin.zeroCells zv.cells (grownCap w (m+1) 0 e-(m+1))) e) (.rows (rs.take 0++new.map .av)) ⟨w.heap.size,0,(us.toArray++Builtin.zeroCells zv.cells (grownCap w (m+1) 0 e-(m+1))).size,fun _=>none⟩ rfl (by simpa using D) b3
       ⟨⟨_,e,(by show(w.heap.push _)[w.heap.size]?=_;simp),rfl⟩,cells _ _ _ [] (fun _=>none) _ _ (a6.trans j3) rfl (fun j u h=>by simp at h) (fun k l' e' c' q _ h=>by cases h) (fun j u N=>by
        show((w.drew.alloc _).cell? ⟨w.drew.heap.size,0+j,none⟩)=some u;rw[Nat.zero_add,World.cell?_alloc_new];have N:us[j]?=some u:=by simpa using N
        have:=aT N;simp[Array.getElem?_append,this,N];simpa using(List.getElem?_eq_some_iff.1 N).2),And.intro (fun k l' e' c' q _ h=>by cases h) (fun k k' l' e' l2 e2 c' c2 q q' _ _ _ h=>by cases h)⟩ j8
      rw[<-O]at j3 j9;have b9:m+1<=grownCap w (m+1) 0 e:=by simp[grownCap,Question.cut]
      refine⟨_,.slice (some ⟨w.heap.size,0,none⟩) (m+1) (grownCap w (m+1) 0 e),_,_,?_,.inl rfl,a6.trans j3,j9,.inr ⟨_,⟨w.heap.size,0,none⟩,grownCap w (m+1) 0 e,jl hI D _,by rw[Nat.zero_add],by rw[Nat.zero_add];exact b9,rfl,fun _=>⟨rfl,?_⟩⟩,fun j N=>iK hI D _ (.rows (rs.take 0++new.map .av)) j (fun b hb=>N b (by simp at hb ⊢;exact .inr hb))⟩
      ·simp[Builtin.append_,run_underlying ht,run_underlying b7,sizeOf,typeInfo,zeroValue,hi,c7,Builtin.lenOf,c8,c9,g1,g2,Question.forced,run_firstCells_none,c6,newRow,grownCap]
      ·simp only[Array.size_append,List.size_toArray,h5,size_zeroCells,b0];omega
     obtain⟨⟨c,te,J,e9⟩,hC,k4,k5⟩:=hI.ok i' _ p hH b1;obtain⟨os,o1,o3,o4⟩:=RvW.JQ hC len k1;have b4:∀(w':World),(∀ad,w'.cell? ad=w.cell? ad)->∀b',some b=some b'->∀j u,os[j]?=some u->w'.cell? (b'.add j)=some u:=by
      intro w' j0 b' c3 j u N;cases c3;rw[j0];by_cases e5:0<C
      ·rw[(h3 e5).1,gX];exact(o4 j u N).1
      ·have:os.length=0:=by omega
       rw[List.length_eq_zero_iff]at this;subst this;simp at N
     by_cases Y:len+(m+1)<=C
     ·
      obtain⟨c3,a8⟩:=h3 (by omega);subst c3;have hK:p.off+0+len*1+us.length<=c.size:=by omega
      have e6:=run_storeCells_at P p.blk (p.off+0+len*1) te us 0 c w J (by simpa using hK) a7;simp only[Nat.add_zero]at e6;have c5:(Builtin.append_ #[t,t'] ty #[.slice (some ⟨p.blk,p.off+0,none⟩) len C,.slice a (m+1) cap]).run P w=
        .ok (.slice (some ⟨p.blk,p.off+0,none⟩) (len+(m+1)) C) (w.setRow p.blk (c.toList.take (p.off+len*1)++us++c.toList.drop (p.off+len*1+us.length)).toArray):=by
       simp[Builtin.append_,run_underlying ht,run_underlying b7,cn hn,Builtin.lenOf,Y,e3,gX];have k6:(storeCells ⟨p.blk,p.off+len,none⟩ us).run P w=.ok () (w.setRow p.blk (c.toList.take (p.off+len)++(us++c.toList.drop (p.off+len+us.length))).toArray):=by simpa using e6
       rw[k6];rfl
      obtain⟨T,I⟩:=hI.grow hH b1 rfl (.rows (rs.take len++new.map .av)) ⟨p.blk,p.off,p.size,p.subs⟩ rfl D b3 (w':=w.setRow p.blk (c.toList.take (p.off+len*1)++us++c.toList.drop (p.off+len*1+us.length)).toArray)
       (by simp) (fun b hb=>by simp only[World.setRow,Array.getElem?_modify];rw[if_neg (by omega)]) rfl rfl rfl (fun _=>Nat.le_refl _) (fun T=>by
        refine⟨⟨_,te,setRow_heap w _ c _ te _ J,?_⟩,cells _ _ _ os p.subs _ _ T o1 (fun j u N=>(o4 j u N).2) (fun k l' e' c' q g1 g2=>?_) ?_,fun k l' e' c' q g1 g2=>k4 k l' e' c' q (a1 g1) g2,fun k k' l' e' l2 e2 c' c2 q q' j4 g1 g2 g3 g4=>k5 k k' l' e' l2 e2 c' c2 q q' j4 (a1 g1) (a1 g2) g3 g4⟩
        ·simp;omega
        ·have:=k4 k l' e' c' q g1 g2;simp only[World.setRow,Array.getElem?_modify];rw[if_neg (by omega)]
        ·intro j u N;simp only[World.cell?,setRow_heap w _ c _ te _ J];simp only[Option.isSome_none,Bool.false_eq_true,if_false,List.getElem?_toArray];have c0:(c.toList.take (p.off+len*1)).length=p.off+len*1:=by simp;omega
         rw[List.append_assoc];by_cases h4:j<os.length
         ·rw[List.getElem?_append_left h4]at N;rw[List.getElem?_append_left (by rw[c0];omega),List.getElem?_take,if_pos (by omega)];have:=(o4 j u N).1;simp only[World.cell?,J]at this;simpa using this
         ·rw[List.getElem?_append_right (by omega)]at N;rw[List.getElem?_append_right (by rw[c0];omega),c0,show p.off+j-(p.off+len*1)=j-os.length by omega];rw[List.getElem?_append_left (aT N)];exact N) (by
        rintro b' (h|⟨k,l',e',c',q,g1,g2,g3⟩)
        ·exact .inl h
        ·exact .inr ⟨k,l',e',c',q,a1 g1,g2,g3⟩)
      rw[<-O]at T I;refine⟨_,.slice (some ⟨p.blk,p.off+0,none⟩) (len+(m+1)) C,_,_,by simp only[Sem.run_bind,c5,Result.andThen_ok];rfl,.inl rfl,T,I,.inr ⟨_,_,_,jl hI D _,rfl,Y,rfl,fun _=>⟨rfl,?_⟩⟩,fun j N=>iK hI D _ (.rows (rs.take len++new.map .av)) j (fun b hb=>N b (by simp at hb ⊢;exact .inr hb))⟩;simpa using a8
     ·
      have a8:=growslice_fits (need:=len+(m+1)) (old:=C) (bytes:=by_) (by omega) k2;have g1:¬9223372036854775807<((len:Int)+((m:Int)+1)):=by omega
      have g2:¬281474976710656<Builtin.nextslicecap (len+(m+1)) C*by_:=by omega
      have j1:=jI (P:=P) (n:=1) (m:=len) (cap:=C) (a:=some b) w.drew (by omega) (fun e=>by cases e) (b4 w.drew (fun _=>by simp));obtain⟨T,I⟩:=hI.move hH b1 rfl (.rows (rs.take len++new.map .av)) ⟨w.heap.size,0,(os.toArray++us.toArray++Builtin.zeroCells zv.cells (grownCap w (len+(m+1)) C e-(len+(m+1)))).size,p.subs⟩ D b3
       (w':=w.drew.alloc (.cells (os.toArray++us.toArray++Builtin.zeroCells zv.cells (grownCap w (len+(m+1)) C e-(len+(m+1)))) e)) (by simp) (fun b' c3 _=>by simp only[World.alloc,World.drew,Array.getElem?_push];rw[if_neg (by omega)]) rfl rfl rfl (fun _=>Nat.le_succ _) (by
        rintro b' (h|⟨k,l',e',c',q,g1,g2,g3⟩)
        ·simp only at h;subst h;right;simp
        ·exact .inl (.inr ⟨k,l',e',c',q,a1 g1,g2,g3⟩)) (fun T=>by
        refine⟨⟨_,e,(by show(w.heap.push _)[w.heap.size]?=_;simp),rfl⟩,cells _ _ _ os p.subs _ _ T o1 (fun j u N=>(o4 j u N).2) (fun k l' e' c' q g1 g2=>?_) ?_,fun k l' e' c' q g1 g2=>?_,fun k k' l' e' l2 e2 c' c2 q q' j4 g1 g2 g3 g4=>k5 k k' l' e' l2 e2 c' c2 q q' j4 (a1 g1) (a1 g2) g3 g4⟩
        ·have:=(hI.baseO i' _ p q.1 hH b1 (.inr ⟨k,l',e',c',q,g1,g2,rfl⟩)).2;simp only[World.alloc,World.drew,Array.getElem?_push];rw[if_neg (by omega)]
        ·intro j u N;show((w.drew.alloc _).cell? ⟨w.drew.heap.size,0+j,none⟩)=some u;rw[Nat.zero_add,World.cell?_alloc_new];have h4:=aT N;have hl:(os.toArray++us.toArray)[j]?=some u:=by
          have e:os.toArray++us.toArray=(os++us).toArray:=by simp
          rw[e,List.getElem?_toArray];exact N
         rw[Array.getElem?_append,if_pos (by have:=(Array.getElem?_eq_some_iff.1 hl).1;exact this)];exact hl
        ·have:=(hI.baseO i' _ p q.1 hH b1 (.inr ⟨k,l',e',c',q,a1 g1,g2,rfl⟩)).2;simp only;omega)
      have b9:len+(m+1)<=grownCap w (len+(m+1)) C e:=by simp[grownCap,Question.cut]
      rw[<-O]at T I;refine⟨_,.slice (some ⟨w.heap.size,0,none⟩) (len+(m+1)) (grownCap w (len+(m+1)) C e),_,_,?_,.inl rfl,T,I,.inr ⟨_,_,_,jl hI D _,rfl,b9,rfl,fun _=>⟨rfl,?_⟩⟩,fun j N=>iK hI D _ (.rows (rs.take len++new.map .av)) j (fun b hb=>N b (by simp at hb ⊢;exact .inr hb))⟩
      ·simp[Builtin.append_,run_underlying ht,run_underlying b7,sizeOf,typeInfo,zeroValue,hi,c7,Builtin.lenOf,c8,c9,g1,g2,Y,Question.forced,j1,c6,newRow,grownCap];congr 2;apply Array.ext';simp[List.append_assoc]
      ·simp only[Array.size_append,List.size_toArray,o1,h5,size_zeroCells,b0];omega
    ·cases h
   ·cases h
  ·cases h
end
def ui(P:Program):Prop:=∀(f:Nat) (fn:Func),P.funcs[f]?=some fn->fn.name≠ "runtime.NumGoroutine"
section
variable{P:Program}{out:Nat->Prop}{B:Nat->Prop}{w:World}{π:List (Option PB)}{H:List Blk}
theorem Cv(hI:Inv out B w π H){at_:Array TypeId}{t e ty:TypeId}{n:Nat}{d x:AV}{vd vx:Value}{r:bU}(h0:at_[0]?=some t)(ht:P.underlying t=some (.slice e))(hn:gE P e=some n)
  (hd:Rv w (aL out π H) π d vd) (hx:Rv w (aL out π H) π x vx) (h:yR H n d x=some r):cV P out B w π H (do pure (.value (<-Builtin.copy_ at_ ty #[vd,vx]))) r:=by
 unfold yR at h;split at h
 ·cases h
 rename_i new m hc;obtain⟨a,cap,rfl,J,b1,us,N,C,O,E⟩:=qu hI hx hc;split at h
 rotate_left
 ·cases h
 rename_i i off len es;split at h
 rotate_left
 ·cases h
 rename_i cs hH;split at h
 rotate_left
 ·cases h
 rename_i z;cases h;simp only[Bool.and_eq_true,decide_eq_true_eq]at z;obtain⟨rfl,hle⟩:=z;have T:Nat.min m len<=m:=Nat.min_le_left _ _;have a1:Nat.min m len<=len:=Nat.min_le_right _ _;have b3:Nat.min m len*es<=m*es:=Nat.mul_le_mul_right _ T;have b4:Nat.min m len*es<=len*es:=Nat.mul_le_mul_right _ a1;have q:aR H [(i,.own cs)]=H:=by
  simp only[aR,upd,aT hH,if_true];apply List.ext_getElem?;intro j;rw[List.getElem?_set];split
  ·rename_i a6;subst a6;rw[if_pos (aT hH)];exact hH.symm
  ·rfl
 have U:∀k,k<=m->(Builtin.firstCells es k (.slice a m cap)).run P w=.ok (us.take (k*es)).toArray w:=by
  intro k hk;cases a with
  |none=>
   have:=J rfl;subst this;have:us=[]:=by rw[<-List.length_eq_zero_iff,N];simp
   subst this;simp[Builtin.firstCells]
  |some b=>
   refine run_firstCells_some w es k b m cap _ ?_ fun j u hj=>E b rfl j u ?_
   ·rw[List.length_take,N];exact Nat.min_eq_left (Nat.mul_le_mul_right _ hk)
   ·rw[List.getElem?_take]at hj;split at hj
    ·exact hj
    ·cases hj
 rcases hd with⟨rfl,rfl⟩|⟨p,ad,D,hp,rfl,b5,b6,Y⟩
 ·
  have e0:Nat.min m 0=0:=Nat.min_zero m;have I:=U 0 (Nat.zero_le _);simp only[e0,Nat.zero_mul,List.take_zero,setCells]at I ⊢;refine⟨.value (.int .i64 0),.int .i64 0,w,π,?_,.inl rfl,?_,?_,rfl,fun _ _=>rfl⟩
  ·simp[Builtin.copy_,h0,run_underlying ht,cn hn,Builtin.lenOf,e0,I,goInt]
  ·rw[q];exact Ext.refl _ _ _
  ·rw[q];exact hI
 ·have I:=U _ T;by_cases hz:Nat.min m len*es=0
  ·rw[hz]at I;simp only[hz,List.take_zero,setCells]at I ⊢;refine⟨.value (.int .i64 (Nat.min m len:Nat)),.int .i64 (Nat.min m len:Nat),w,π,?_,.inl rfl,?_,?_,rfl,fun _ _=>rfl⟩
   ·simp only[Builtin.copy_]at*;simp[h0,run_underlying ht,cn hn,Builtin.lenOf,I,storeCells,goInt]
   ·rw[q];exact Ext.refl _ _ _
   ·rw[q];exact hI
  ·have a7:0<D:=by
    rcases Nat.eq_zero_or_pos D with h|h
    ·have:Nat.min m len=0:=by omega
     rw[this]at hz;simp at hz
    ·exact h
   obtain⟨a8,_⟩:=Y a7;obtain⟨ab,ao,b7⟩:=ad;have b0:RvL w (aL out π H) π (new.take (Nat.min m len*es)) (us.take (Nat.min m len*es)):=RvL.take _ _ _ C;have b8:=RvL.length _ _ C;obtain⟨w',r1,r2,r3⟩:=pn (P:=P) hp (new.take (Nat.min m len*es)) (us.take (Nat.min m len*es)) 0 off cs w H hI hH b0 (fun v hv=>O v (List.mem_of_mem_take hv)) (by rw[List.length_take];omega);have hu:aR H [(i,.own (setCells cs off (new.take (Nat.min m len*es))))]=H.set i (.own (setCells cs off (new.take (Nat.min m len*es)))):=by simp[aR,upd,aT hH]
   rw[Nat.add_zero]at r2 r3;refine⟨.value (.int .i64 (Nat.min m len:Nat)),.int .i64 (Nat.min m len:Nat),w',π,?_,.inl rfl,by rw[hu];exact r2,by rw[hu];exact r3,rfl,fun _ _=>rfl⟩;rw[a8];simp only[Builtin.copy_]at*;simp[h0,run_underlying ht,cn hn,Builtin.lenOf,I,r1,goInt]
theorem y8(J:Inv out B w π H){nid:Nat}(m:nid<=H.length)(N:∀q,π[nid]?≠some (some q)){t t' e ty:TypeId}{kk:IntKind}{n by_:Nat}{z:List AV}{s x:AV}{vs vx:Value}{r:bU}(ht:P.underlying t=some (.slice e))(O:P.underlying t'=some (.int kk))
  (hn:gE P e=some n) (hb:qU P e=some by_) (hz:mw P e=some z) (hs:Rv w (aL out π H) π s vs) (hx:Rv w (aL out π H) π x vx) (h:u6 nid n by_ z s x=some r):
  cV P out B w π H (do pure (.value (<-Builtin.append_ #[t,t'] ty #[vs,vx]))) r:=by
 obtain⟨j,i,T,U,b9,rfl⟩:=sV hz w;have Y:i.size=n:=by simpa [gE,T]using hn
 have a1:i.bytes=by_:=by simpa [qU,T]using hb
 unfold u6 at h;split at h
 ·rename_i k;split at h
  ·rename_i C;simp only[Bool.and_eq_true,decide_eq_true_eq]at C;obtain⟨⟨⟨⟨⟨k0,k1⟩,k2⟩,k3⟩,k4⟩,k5⟩:=C;cases h;cases hs;cases hx;obtain⟨M,rfl⟩:∃M:Nat,k=(M:Int):=⟨k.toNat,by omega⟩;have hM:0<M:=by omega
   have a6:¬M=0:=by omega
   have hk:((M:Int)).toNat=M:=by omega
   rw[hk]at k2 ⊢;have c0:=growslice_fits (need:=M) (old:=0) (bytes:=by_) (by omega) k2;have g1:¬9223372036854775807<(M:Int):=by omega
   have g2:¬281474976710656<Builtin.nextslicecap M 0*by_:=by omega
   have hw:IntKind.i64.wrap ((M:Int))=(M:Int):=by
    simp[IntKind.wrap,IntKind.bits,IntKind.signed];omega
   have g3:¬(2:Int)^48<(M:Int)*(by_:Int):=by
    rw[<-Int.natCast_mul];omega
   obtain⟨a7,a8⟩:=J.same (w':=w.drew) rfl rfl rfl rfl (fun _=>Nat.le_succ _);have D:j.cells.size=n:=by simpa using k4
   have b0:(Builtin.zeroCells j.cells M).toList=(List.replicate M j.cells.toList).flatten:=mO j.cells M (by omega);have E:∀(w0:World) (b1:Nat->Prop) (π0:List (Option PB)),RvL w0 b1 π0 (eY (j.cells.toList.map .at) M) ((List.replicate M j.cells.toList).flatten):=fun _ _ _=>tD _ _
   have hlen:=RvL.length _ _ (E w (aL out π H) π);have I:(Builtin.zeroCells j.cells M++Builtin.zeroCells j.cells (grownCap w M 0 e-M)).toList.take (eY (j.cells.toList.map .at) M).length=(List.replicate M j.cells.toList).flatten:=by
    rw[<-hlen,Array.toList_append,b0,List.take_left'];rfl
   obtain⟨hE,b3⟩:=vD a8 m N (eY (j.cells.toList.map .at) M) (Builtin.zeroCells j.cells M++Builtin.zeroCells j.cells (grownCap w M 0 e-M)) e (by rw[I];exact E _ _ _) (by rw[I];exact lO (all_zero k5) _);have b4:M<=grownCap w M 0 e:=by simp[grownCap,Question.cut]
   have e0:(grownCap w M 0 e-M)*n+M*n=grownCap w M 0 e*n:=by rw[<-Nat.add_mul];congr 1;omega
   refine⟨_,.slice (some ⟨w.heap.size,0,none⟩) M (grownCap w M 0 e),_,_,?_,.inl rfl,a7.trans hE,b3,.inr ⟨_,_,_,jl J m _,rfl,b4,rfl,fun _=>⟨rfl,?_⟩⟩,iK J m _ _⟩
   ·have b5:¬M*n=0:=by
     intro h0;rcases Nat.mul_eq_zero.1 h0 with h0|h0<;>omega
    have b6:¬n=0:=by omega
    have b7:¬281474976710656<(M:Int)*(by_:Int):=by rw[<-Int.natCast_mul];omega
    have g4:M<=9223372036854775807:=by omega
    have b8:¬(M:Int)<0:=by omega
    simp only[Builtin.append_];simp[run_underlying ht,run_underlying O,sizeOf,typeInfo,zeroValue,T,U,asInt,asIntOf,hw,b8,b7,a6,b6,g4,Y,a1,g1,g2,b5,Question.forced,run_firstCells_none,newRow,grownCap]
   ·simp only[Array.size_append,size_zeroCells,D];omega
  ·cases h
 ·cases h
theorem BU(U:Inv out B w π H){at_:Array TypeId}{t e ty:TypeId}{n:Nat}{z:List AV}{d:AV}{vd:Value}{r:bU}(Y:at_[0]?=some t)(ht:P.underlying t=some (.slice e))(hn:gE P e=some n)(hz:mw P e=some z)
  (hd:Rv w (aL out π H) π d vd) (h:ua H n z d=some r):cV P out B w π H (do pure (.value (<-Builtin.clear_ at_ ty #[vd]))) r:=by
 obtain⟨C,i0,hi,b5,I,rfl⟩:=sV hz w;unfold ua at h;split at h
 rotate_left
 ·cases h
 rename_i i off len es;split at h
 rotate_left
 ·cases h
 rename_i cs hH;split at h
 rotate_left
 ·cases h
 rename_i D;cases h;simp only[Bool.and_eq_true,decide_eq_true_eq]at D;obtain⟨⟨⟨⟨rfl,hle⟩,a1⟩,E⟩,a6⟩:=D;have q:aR H [(i,.own cs)]=H:=by
  simp only[aR,upd,aT hH,if_true];apply List.ext_getElem?;intro j;rw[List.getElem?_set];split
  ·rename_i a7;subst a7;rw[if_pos (aT hH)];exact hH.symm
  ·rfl
 have a8:C.cells.size=es:=by simpa using a1
 rcases hd with⟨rfl,rfl⟩|⟨p,ad,J,hp,rfl,b6,b7,N⟩
 ·simp only[eY,setCells];refine⟨.value (.tuple #[]),.tuple #[],w,π,?_,.inl rfl,?_,?_,rfl,fun _ _=>rfl⟩
  ·simp[Builtin.clear_,Y,run_underlying ht]
  ·rw[q];exact Ext.refl _ _ _
  ·rw[q];exact U
 ·cases len with
  |zero=>
   simp only[eY,setCells];refine⟨.value (.tuple #[]),.tuple #[],w,π,?_,.inl rfl,?_,?_,rfl,fun _ _=>rfl⟩
   ·simp[Builtin.clear_,Y,run_underlying ht]
   ·rw[q];exact Ext.refl _ _ _
   ·rw[q];exact U
  |succ m=>
   have b0:0<J:=by omega
   obtain⟨b1,_⟩:=N b0;obtain⟨ab,ao,b8⟩:=ad;have O:(Builtin.zeroCells C.cells (m+1)).toList=(List.replicate (m+1) C.cells.toList).flatten:=mO C.cells (m+1) (by omega);have T:RvL w (aL out π H) π (eY ((C.cells.toList.map .at).map wkN) (m+1)) ((List.replicate (m+1) C.cells.toList).flatten):=yK _ _;have b3:=RvL.length _ _ T;have b4:(eY ((C.cells.toList.map .at).map wkN) (m+1)).length=(m+1)*es:=by rw[<-b3,<-O,Array.length_toList,size_zeroCells,a8]
   obtain⟨w',r1,r2,r3⟩:=pn (P:=P) hp (eY ((C.cells.toList.map .at).map wkN) (m+1)) ((List.replicate (m+1) C.cells.toList).flatten) 0 off cs w H U hH T (lO (all_zero E) _) (by omega);have hu:aR H [(i,.own (setCells cs off (eY ((C.cells.toList.map .at).map wkN) (m+1))))]=H.set i (.own (setCells cs off (eY ((C.cells.toList.map .at).map wkN) (m+1)))):=by simp[aR,upd,aT hH]
   rw[Nat.add_zero]at r2 r3;refine⟨.value (.tuple #[]),.tuple #[],w',π,?_,.inl rfl,by rw[hu];exact r2,by rw[hu];exact r3,rfl,fun _ _=>rfl⟩;rw[b1];rw[<-O]at r1;simp[Builtin.clear_,Y,run_underlying ht,I,r1]
theorem Aa(j:ui P){f:FuncId}(h:xT P f=true)(args:Array Value)(w:World):(callFunc f args).run P w=.ok (.enter f args) w:=by
 unfold xT at h;split at h
 ·rename_i fn m;have q:=j f fn m;have hb:¬fn.body=none:=by intro e;simp[e]at h
  simp[callFunc,m,q,hb]
 ·cases h
theorem yV(hI:Inv out B w π H){nid:Nat}(D:nid<=H.length)(Y:∀q,π[nid]?≠some (some q)){b:Builtin}{at_:Array TypeId}{ty:TypeId}{consts:Array Bool}{args:List AV}{vs:List Value}{r:bU}(J:RvL w (aL out π H) π args vs)(h:nK P H nid b at_ ty args=some r):
  cV P out B w π H (builtin b at_ ty consts vs.toArray) r:=by
 unfold nK at h;split at h
 ·rename_i x;obtain⟨v,N,rfl,hx,rfl⟩:=J;split at h
  ·rename_i t E;refine jU h fun A I=>?_
   have:∃u,(Builtin.len_ at_ ty #[v]).run P w=.ok u w/\Rv w (aL out π H) π A u:=by
    unfold Jw at I;split at I
    ·rename_i e nl cs len hu;cases I;rcases hx with⟨_,rfl,_,rfl⟩|⟨b,o,cap,rfl,_⟩|⟨rfl,_,a,cap,rfl⟩
     rotate_left 2
     ·exact⟨.int .i64 0,by simp[Builtin.len_,E,run_underlying hu,goInt],rfl⟩
     ·exact⟨.int .i64 0,by simp[Builtin.len_,E,run_underlying hu,goInt],rfl⟩
     ·exact⟨.int .i64 len,by simp[Builtin.len_,E,run_underlying hu,goInt],rfl⟩
    ·rename_i e b off len es hu;cases I;rcases hx with⟨rfl,rfl⟩|⟨p,a,cap,_,rfl,_⟩
     ·exact⟨.int .i64 0,by simp[Builtin.len_,E,run_underlying hu,goInt],rfl⟩
     ·exact⟨.int .i64 len,by simp[Builtin.len_,E,run_underlying hu,goInt],rfl⟩
    ·rename_i e hu;cases I;cases hx;exact⟨.int .i64 0,by simp[Builtin.len_,E,run_underlying hu,goInt],rfl⟩
    ·rename_i s hu;cases I;cases hx;exact⟨.int .i64 s.size,by simp[Builtin.len_,E,run_underlying hu,goInt],rfl⟩
    ·rename_i y n e hu;cases I;exact⟨.int .i64 n,by simp[Builtin.len_,E,run_underlying hu,goInt],rfl⟩
    ·cases I
   obtain⟨u,h1,h2⟩:=this;exact cV.value h1 h2
  ·cases h
 ·rename_i s x;obtain⟨v,N,rfl,hs,u,a1,rfl,hx,rfl⟩:=J;split at h
  ·rename_i t t' h1 h2;split at h
   ·rename_i e e' hu O;split at h
    ·rename_i n by_ z T hb hz;split at h
     ·rename_i a6;have:=Ak hI D Y (ty:=ty) hu O T hb hz (by simpa using a6) hs hx h;have e1:(Builtin.append_ at_ ty #[v,u]).run P=(Builtin.append_ #[t,t'] ty #[v,u]).run P:=by
       funext w;simp only[Builtin.append_,h1,h2];rfl
      have e2:(do pure (Next.value (<-Builtin.append_ at_ ty #[v,u])):Sem Next).run P=(do pure (Next.value (<-Builtin.append_ #[t,t'] ty #[v,u])):Sem Next).run P:=by
       funext w;simp only[Sem.run_bind,e1]
      cases r with
      |pure A=>obtain⟨U,y,j,m⟩:=this;exact⟨U,y,by rw[<-e2]at j;exact j,m⟩
      |eff A H'=>obtain⟨U,y,w',π',j,m⟩:=this;exact⟨U,y,w',π',by rw[<-e2]at j;exact j,m⟩
      |call f as=>obtain⟨y,j,m⟩:=this;exact⟨y,by rw[<-e2]at j;exact j,m⟩
     ·cases h
    ·cases h
   ·rename_i e kk hu O;split at h
    ·rename_i n by_ z T hb hz;have:=y8 hI D Y (ty:=ty) hu O T hb hz hs hx h;have e1:(Builtin.append_ at_ ty #[v,u]).run P=(Builtin.append_ #[t,t'] ty #[v,u]).run P:=by
      funext w;simp only[Builtin.append_,h1,h2];rfl
     have e2:(do pure (Next.value (<-Builtin.append_ at_ ty #[v,u])):Sem Next).run P=(do pure (Next.value (<-Builtin.append_ #[t,t'] ty #[v,u])):Sem Next).run P:=by
      funext w;simp only[Sem.run_bind,e1]
     cases r with
     |pure A=>obtain⟨U,y,j,m⟩:=this;exact⟨U,y,by rw[<-e2]at j;exact j,m⟩
     |eff A H'=>obtain⟨U,y,w',π',j,m⟩:=this;exact⟨U,y,w',π',by rw[<-e2]at j;exact j,m⟩
     |call f as=>obtain⟨y,j,m⟩:=this;exact⟨y,by rw[<-e2]at j;exact j,m⟩
    ·cases h
   ·cases h
  ·cases h
 ·rename_i d x;obtain⟨v,N,rfl,hs,u,a1,rfl,hx,rfl⟩:=J;split at h
  ·rename_i t h1;split at h
   ·rename_i e hu;split at h
    ·rename_i n T;exact Cv hI h1 hu T hs hx h
    ·cases h
   ·cases h
  ·cases h
 ·rename_i d;obtain⟨v,N,rfl,hs,rfl⟩:=J;split at h
  ·rename_i t h1;split at h
   ·rename_i e hu;split at h
    ·rename_i n z T hz;exact BU hI h1 hu T hz hs h
    ·cases h
   ·cases h
  ·cases h
 ·split at h
  ·rename_i us C;have:=oN args vs us J C;subst this;split at h
   ·rename_i y hy;cases h;exact cV.value (ij hy w) rfl
   ·cases h
  ·cases h
 ·split at h
  ·rename_i us C;have:=oN args vs us J C;subst this;split at h
   ·rename_i y hy;cases h;exact cV.value (ij hy w) rfl
   ·cases h
  ·cases h
 ·split at h
  ·rename_i us C;have:=oN args vs us J C;subst this;split at h
   ·rename_i y hy;cases h;exact cV.value (ij hy w) rfl
   ·cases h
  ·cases h
 ·cases h
theorem lk(a6:ui P)(D:Inv out B w π H){nid:Nat}(j:nid<=H.length)(E:∀q,π[nid]?≠some (some q)){ρ:Operand->AV}{ρc:Operand->Value}(hρ:∀x,Rv w (aL out π H) π (ρ x) (ρc x)){o:Oper}{r:bU}(h:evalOp P ρ H nid o=some r):
  cV P out B w π H (execOp ρc o) r:=by
 unfold evalOp at h;unfold execOp;cases a7:o.op<;>simp only[a7,x7,th,zU,va,kZ,vv,oX,qk,mc,vJ,vN,nF]at h ⊢
 case move x=>cases h;exact⟨_,_,rfl,.inl rfl,hρ x⟩
 case «assign» x=>cases h;exact⟨_,_,rfl,.inl rfl,hρ x⟩
 case pick c a b=>
  split at h
  ·rename_i t hc;cases h;have a8:ρc c=.bool t:=by have:=hρ c;rw[hc]at this;exact this
   refine⟨_,if t then ρc a else ρc b,?_,.inl rfl,Cq (hρ a) (hρ b)⟩;simp[a8,asBool]
  ·cases h
 case alloc t=>
  split at h
  ·rename_i z I;split at h
   ·rename_i h1;cases h;exact B3 D j E I h1
   ·cases h
  ·cases h
 case box t x=>
  split at h
  ·rename_i h1;cases h;exact EG D j E (hρ x) h1
  ·cases h
 case build t parts=>
  split at h
  ·rename_i z fs I hu;split at h
   ·rename_i pl b0;split at h
    ·rename_i h1;split at h
     ·rename_i cs J;cases h;obtain⟨u,r1,r2⟩:=uB (w:=w) (π:=π) hρ hu I b0 h1 J;exact cV.value r1 r2
     ·cases h
    ·cases h
   ·cases h
  ·rename_i z len e I hu;split at h
   ·rename_i n hn;split at h
    ·rename_i h1;split at h
     ·rename_i cs J;cases h;obtain⟨u,r1,r2⟩:=vH (w:=w) (π:=π) hρ hu I hn h1 J;exact cV.value r1 r2
     ·cases h
    ·cases h
   ·cases h
  ·cases h
 case buildSlice t len parts=>
  split at h
  ·rename_i e hu;split at h
   ·rename_i n z hn I;split at h
    ·rename_i hc;simp only[Bool.and_eq_true,decide_eq_true_eq]at hc;split at h
     ·rename_i cs J;cases h;exact wo D j E hρ hu hn I hc.1.1 hc.1.2 hc.2 J
     ·cases h
    ·cases h
   ·cases h
  ·cases h
 case load t a=>
  refine jU h fun A C=>?_
  obtain⟨u,r1,r2⟩:=wZ D (hρ a) C;exact cV.value r1 r2
 case store t a x=>
  split at h
  ·rename_i H' b1;cases h;obtain⟨w',r1,r2,r3⟩:=AJ D (hρ a) (hρ x) b1;exact⟨.skip,undef,w',π,by simp[r1],.inr ⟨rfl,rfl⟩,r2,r3,trivial,fun _ _=>rfl⟩
  ·cases h
 case nilCheck x=>
  have hx:=hρ x;split at h
  ·rename_i b off hb;cases h;rw[hb]at hx;have N:=hx;obtain⟨p,_,hp⟩:=hx;refine⟨_,ρc x,?_,.inl rfl,N⟩;rw[hp];rfl
  ·rename_i cs off hb;cases h;rw[hb]at hx;have N:=hx;obtain⟨b,o,hp,_⟩:=hx;refine⟨_,ρc x,?_,.inl rfl,N⟩;rw[hp];rfl
  ·rename_i f a c hb;cases h;rw[hb]at hx;have N:=hx;obtain⟨fs,cs,hp,_⟩:=hx;refine⟨_,ρc x,?_,.inl rfl,N⟩;rw[hp];rfl
  ·cases h
 case binOp op t x y yt=>
  refine jU h fun A C=>?_
  obtain⟨u,r1,r2⟩:=z8 (P:=P) (hρ x) (hρ y) C;exact cV.value r1 r2
 case unOp op t x=>exact xM (hρ x) (fun a b e hb=>by subst e;exact ij hb w) h
 case convert s d x=>
  split at h
  ·rename_i v hv;cases h;exact cV.value (BQ (P:=P) (w:=w) (hρ x) hv) rfl
  ·exact xM (hρ x) (fun a b e hb=>by subst e;exact ij hb w) h
 case makeFunc fn fs cs=>
  cases fn<;>simp only at h
  case func f=>
   cases h;refine cV.value (v:=.func (.func f) (fs.map ρc) (cs.map ρc)) rfl ⟨fs.map ρc,cs.map ρc,rfl,?_,?_⟩
   ·rw[Array.toList_map];exact vF hρ _
   ·rw[Array.toList_map];exact vF hρ _
  all_goals cases h
 case makeSlice t l c=>
  split at h
  ·rename_i e kl il kc ic hu hl hc;split at h
   ·rename_i n by_ z hn hb I;split at h
    ·rename_i O;simp only[Bool.and_eq_true,decide_eq_true_eq]at O;obtain⟨⟨⟨⟨⟨⟨U,Y⟩,k3⟩,k4⟩,k5⟩,k6⟩,k7⟩:=O;cases h;have e1:=sN (hρ l) hl;have e2:=sN (hρ c) hc;rw[e1,e2];exact xn D j E hu hn hb I U Y k3 k4 k5 k6 k7
    ·cases h
   ·cases h
  ·cases h
 case slice t x lo hi mx=>
  cases mx with
  |some m=>simp only at h;cases h
  |none=>
   have ho:∀y:Option Operand,IM w (aL out π H) π (y.map ρ) (y.map ρc):=by
    intro y;cases y with
    |none=>trivial
    |some y=>exact hρ y
   simp only at h;split at h
   ·rename_i s hs;have hx:ρc x=.string s:=by have:=hρ x;rw[hs]at this;exact this
    have opt:∀(y:Option Operand) (z:Option Value),(match y with|none=>some none|some a=>(toV (ρ a)).map some)=some z->y.map ρc=z:=by
     intro y z I;cases y with
     |none=>cases I;rfl
     |some a=>
      simp only at I;cases ha:toV (ρ a)with
      |none=>simp[ha]at I
      |some b=>simp[ha]at I;subst I;simp[kd _ _ _ (hρ a) ha]
    split at h
    ·rename_i l hh hl b3;have e1:=opt lo l hl;have e2:=opt hi hh b3;split at h
     ·rename_i r' b4;cases h;rw[hx];simp only[Option.map_none];rw[e1,e2];exact cV.value (ij b4 w) rfl
     ·cases h
    ·cases h
   ·refine jU h fun A C=>?_
    obtain⟨u,r1,r2⟩:=Ae D (hρ x) (ho lo) (ho hi) C;exact cV.value r1 r2
 case fieldAddr s x f=>
  refine jU h fun A C=>?_
  obtain⟨u,r1,r2⟩:=vL (P:=P) (w:=w) (hρ x) C;exact cV.value r1 r2
 case field s x f=>
  refine jU h fun A C=>?_
  obtain⟨u,r1,r2⟩:=AB (P:=P) (w:=w) (hρ x) C;exact cV.value r1 r2
 case indexAddr t x ix=>
  refine jU h fun A C=>?_
  obtain⟨u,r1,r2⟩:=vU (P:=P) (w:=w) (hρ x) (hρ ix) C;exact cV.value r1 r2
 case index t x ix=>
  refine jU h fun A C=>?_
  obtain⟨u,r1,r2⟩:=Aj (P:=P) (w:=w) (hρ x) (hρ ix) C;exact cV.value r1 r2
 case extract t ix=>
  split at h
  ·rename_i vs b5;refine jU h fun A C=>?_
   have ht:=hρ t;rw[b5]at ht;obtain⟨us,hu,hr⟩:=ht;obtain⟨u,r1,r2⟩:=RvL.get _ _ _ _ hr C;rw[hu];exact cV.value (v:=u) (by simp[Instr.extract,<-Array.getElem?_toList,r1]) r2
  ·cases h
 case makeMap t r=>
  exact xl D j E (by cases r with|none=>trivial|some y=>exact hρ y) h
 case lookup t x ix ok=>
  refine jU h fun A C=>?_
  obtain⟨u,r1,r2⟩:=zm D (hρ x) (hρ ix) C;exact cV.value r1 r2
 case mapUpdate t m k x=>exact sd D (hρ m) (hρ k) (hρ x) h
 case insert t m k x=>exact sd D (hρ m) (hρ k) (hρ x) h
 case mapEntry t m k=>exact y7 D (hρ m) (hρ k) h
 case entryStore t m s x=>exact uC D (hρ m) (hρ s) (hρ x) h
 case range t x=>exact ze D j E (hρ x) h
 case entry it=>exact u4 D (hρ it) h
 case call c=>
  cases T:c.callee<;>simp only[T]at h
  case value f=>
   split at h
   ·rename_i g fs cs hf;split at h
    ·rename_i hc;cases h;have a1:=hρ f;rw[hf]at a1;obtain⟨a,b,e1,h1,h2⟩:=a1;refine⟨a++c.args.map ρc++b,?_,?_⟩
     ·simp[resolve,T,e1,Deferred.ofValue,invoke,Aa a6 hc]
     ·simp only[Array.toList_append,Array.toList_map];exact RvL.append _ _ _ _ (RvL.append _ _ _ _ h1 (vF hρ _)) h2
    ·cases h
   ·cases h
  case builtin b=>
   have ea:(c.args.toList.map ρc).toArray=c.args.map ρc:=by apply Array.ext';simp
   have e:∃consts,∀w,(do let d<-resolve ρc c o.type;invoke d.target d.args:Sem Next).run P w=(builtin b c.argTypes o.type consts (c.args.toList.map ρc).toArray).run P w:=
    ⟨_,fun w=>by rw[ea];simp only[resolve,T,invoke,Sem.run_bind,Sem.run_pure,Result.andThen_ok];rfl⟩
   obtain⟨consts,e⟩:=e;have:=yV (consts:=consts) D j E (vF hρ c.args.toList) h;cases r with
   |pure A=>obtain⟨nx,y,U,Y⟩:=this;exact⟨nx,y,by rw[e];exact U,Y⟩
   |eff A H'=>obtain⟨nx,y,w',π',U,Y⟩:=this;exact⟨nx,y,w',π',by rw[e];exact U,Y⟩
   |call f as=>obtain⟨y,U,Y⟩:=this;exact⟨y,by rw[e];exact U,Y⟩
  case invoke=>cases h
 all_goals cases h
end
end Go.Eng

