import Derived.Test.YtfclmnpffhbcpaaGreatEng3Plds
import Derived.Laws.Cover3
import Derived.Laws.Pointers
import Derived.MapKept
set_option linter.all false
namespace Go.Eng
open Go Go.RowKit
variable[Dr]
def dx(P:Program)(out:Nat->Prop)(B:Nat->Prop)(w:World)(π:List (Option PB))(H:List Blk)(s:Sem Next):ct->Prop
 |.pure A=>∃q v,s.run P w=.ok q w/\(q=.value v\/q=.skip/\v=undef)/\Rv w (aY out π H) π A v
 |.eff A ws=>∃q v w' π',s.run P w=.ok q w'/\(q=.value v\/q=.skip/\v=undef)/\Ext B w w' (aY out π H) (aY out π' (bj H ws)) π π'/\Inv out B w' π' (bj H ws)/\Rv w' (aY out π' (bj H ws)) π' A v/\∀j,(∀b,(j,b)∉ws)->π'[j]?=π[j]?
 |.call f args=>∃vs,s.run P w=.ok (.enter f vs) w/\RvL w (aY out π H) π args vs.toList
section
variable{P:Program}{out:Nat->Prop}{B:Nat->Prop}{w:World}{π:List (Option PB)}{H:List Blk}
theorem dx.value{s:Sem Value}{A:AV}{v:Value}(h:s.run P w=.ok v w)(j:Rv w (aY out π H) π A v):dx P out B w π H (do pure (.value (<-s))) (.pure A):=
 ⟨.value v,v,by simp[h],.inl rfl,j⟩
theorem ky{s:Sem Next}{o:Option AV}{r:ct}(h:ct.ofP o=some r)(hs:∀A,o=some A->dx P out B w π H s (.pure A)):dx P out B w π H s r:=by
 cases o with
 |none=>cases h
 |some A=>cases h;exact hs A rfl
theorem xO{A:AV}{v:Value}{f:Value->Option Value}{s:Sem Value}{r:ct}(j:Rv w (aY out π H) π A v)(q:∀x y,v=x->f x=some y->s.run P w=.ok y w)(h:Eu f A=some r):
  dx P out B w π H (do pure (.value (<-s))) r:=by
 unfold Eu at h;split at h
 ·rename_i x z;split at h
  ·rename_i y C;cases h;exact dx.value (q x y (kq A v x j z) C) rfl
  ·cases h
 ·cases h
theorem BO{t:Bool}{A j:AV}{a b:Value}(q:Rv w (aY out π H) π A a)(z:Rv w (aY out π H) π j b):Rv w (aY out π H) π (Dy t A j) (if t then a else b):=by
 unfold Dy;split
 ·cases q;cases z;cases t<;>rfl
 ·cases t
  ·exact z
  ·exact q
theorem kL{mu:Nat->Prop}{A:AV}{v:Value}{n:Int}(h:Rv w mu π A v)(hi:Ba A=some n):∃k,v=.int k n:=by
 unfold Ba at hi;split at hi
 ·cases hi;exact⟨_,h⟩
 ·cases hi
theorem sn{mu:Nat->Prop}{A:AV}{v:Value}{k:IntKind}{n:Int}(h:Rv w mu π A v)(hi:AL A=some (k,n)):v=.int k n:=by
 unfold AL at hi;split at hi
 ·cases hi;exact h
 ·cases hi
theorem wF{mu:Nat->Prop}{A j:AV}{v:Value}{n:Nat}(h:Rv w mu π A v)(hp:CI n A=some j):∃q:Addr,v=.pointer (some q)/\Rv w mu π j (.pointer (some (q.add n))):=by
 unfold CI at hp;split at hp
 ·cases hp;obtain⟨p,h1,rfl⟩:=h;exact⟨_,rfl,p,h1,by rw[fV,Nat.add_assoc]⟩
 ·cases hp;obtain⟨b,o,rfl,z,C⟩:=h;exact⟨_,rfl,b,o,by rw[fV,Nat.add_assoc],z,C⟩
 ·cases hp
theorem kQ{mu:Nat->Prop}{t:TypeId}{cs:List AV}{vs:Array Value}{off:Nat}{A:AV}(h:RvL w mu π cs vs.toList)(hp:qF P t cs off=some A):
  ∃v,(part t vs off).run P w=.ok v w/\Rv w mu π A v:=by
 unfold qF at hp;split at hp
 ·rename_i j;split at hp
  ·rename_i n q;cases hp;refine⟨.agg (vs.extract off (off+n)),by simp[part,xg j,cE q],_,rfl,?_⟩;have:=RvL.take n _ _ (RvL.drop off _ _ h);rw[Array.toList_extract,List.extract_eq_take_drop];rwa[show off+n-off=n by omega]
  ·cases hp
 ·rename_i j;obtain⟨v,h1,z⟩:=RvL.get _ _ _ _ h hp;exact⟨v,by simp[part,xg j,<-Array.getElem?_toList,h1],z⟩
 ·cases hp
theorem zo{s:TypeId}{x:AV}{v:Value}{f:Nat}{A:AV}{mu:Nat->Prop}(C:Rv w mu π x v)(h:BF P s x f=some A):∃u,(Instr.field s v f).run P w=.ok u w/\Rv w mu π A u:=by
 unfold BF at h;split at h
 ·rename_i D cs hu;split at h
  ·rename_i fd j;obtain⟨vs,rfl,q⟩:=C;obtain⟨u,h1,z⟩:=kQ q h;exact⟨u,by simp[Instr.field,run_underlying hu,j,asAgg,h1],z⟩
  ·cases h
 ·rename_i D a hu;split at h
  ·rename_i fd j;cases C;obtain⟨u,h1,z⟩:=kQ (gJ a.toList) h;exact⟨u,by simp[Instr.field,run_underlying hu,j,asAgg,h1],z⟩
  ·cases h
 ·cases h
theorem zy{t:TypeId}{x ix:AV}{v vi:Value}{A:AV}{mu:Nat->Prop}(z:Rv w mu π x v)(hi:Rv w mu π ix vi)(h:xi P t x ix=some A):∃u,(Instr.index t v vi).run P w=.ok u w/\Rv w mu π A u:=by
 unfold xi at h;split at h
 ·rename_i len e cs i hu he;split at h
  ·rename_i n C q;simp only[Bool.and_eq_true,decide_eq_true_eq]at q;obtain⟨vs,rfl,D⟩:=z;obtain⟨k,rfl⟩:=kL hi he;obtain⟨u,h1,E⟩:=kQ D h;exact⟨u,by simp[Instr.index,asIntOf,run_underlying hu,q,cE C,h1],E⟩
  ·cases h
 ·rename_i len e a i hu he;split at h
  ·rename_i n C q;simp only[Bool.and_eq_true,decide_eq_true_eq]at q;cases z;obtain⟨k,rfl⟩:=kL hi he;obtain⟨u,h1,E⟩:=kQ (gJ a.toList) h;exact⟨u,by simp[Instr.index,asIntOf,run_underlying hu,q,cE C,h1],E⟩
  ·cases h
 ·rename_i s i hu he;have I:v=s:=z;subst I;split at h
  ·rename_i j J;have:=kq ix vi j hi J;subst this;cases hp:jf P (Instr.index t v vi)with
   |none=>simp[hp]at h
   |some u=>simp[hp]at h;subst h;exact⟨u,ij hp w,rfl⟩
  ·cases h
 ·cases h
theorem vE{s:TypeId}{x:AV}{v:Value}{f:Nat}{A:AV}{mu:Nat->Prop}(C:Rv w mu π x v)(h:tW P s x f=some A):∃u,(Instr.fieldAt s v f).run P w=.ok u w/\Rv w mu π A u:=by
 unfold tW at h;split at h
 ·rename_i I hu;split at h
  ·rename_i fd j;split at h
   ·cases h
   ·rename_i n q D;obtain⟨J,rfl,E⟩:=wF C h;refine⟨_,?_,E⟩;have z:¬n=0:=fun e=>q e
    simp[Instr.fieldAt,run_underlying hu,j,Instr.sureAddr,fieldPlace,cE D,z]
   ·cases h
  ·cases h
 ·cases h
theorem vN{t:TypeId}{x ix:AV}{v vi:Value}{A:AV}{mu:Nat->Prop}(z:Rv w mu π x v)(hi:Rv w mu π ix vi)(h:uv P t x ix=some A):∃u,(Instr.indexAt t v vi).run P w=.ok u w/\Rv w mu π A u:=by
 unfold uv at h;split at h
 ·rename_i e i hu he;obtain⟨k,rfl⟩:=kL hi he;split at h
  ·rename_i n nl cs len q;split at h
   ·rename_i j;simp only[Bool.and_eq_true,decide_eq_true_eq]at j;cases h;rcases z with⟨_,E,_,_⟩|⟨b,o,cap,rfl,_,C,J⟩|⟨E,_⟩
    rotate_left 2
    ·omega
    ·omega
    ·exact⟨_,by simp[Instr.indexAt,asIntOf,run_underlying hu,j,cE q];rfl,b,o,by rw[fV],C,J⟩
   ·cases h
  ·rename_i n b off len es q;split at h
   ·rename_i j;simp only[Bool.and_eq_true,decide_eq_true_eq]at j;cases h;rcases z with⟨E,_⟩|⟨p,a,cap,h1,rfl,I,N,C⟩
    ·omega
    have D:=(C (by omega)).1;exact⟨_,by simp[Instr.indexAt,asIntOf,run_underlying hu,j,cE q];rfl,p,h1,by rw[D,fV,Nat.add_assoc]⟩
   ·cases h
  ·cases h
 ·rename_i len e i hu he;obtain⟨k,rfl⟩:=kL hi he;split at h
  ·rename_i n q;split at h
   ·rename_i j;simp only[Bool.and_eq_true,decide_eq_true_eq]at j;obtain⟨O,rfl,I⟩:=wF z h;exact⟨_,by simp[Instr.indexAt,asIntOf,run_underlying hu,Instr.sureAddr,j,cE q],I⟩
   ·cases h
  ·cases h
 ·cases h
theorem eJ{mu:Nat->Prop}{isS:Bool}{len cap:Nat}{lo hi:Option AV}{z j:Option Value}{l h:Nat}(hle:len<=cap)
  (C:match lo,z with|none,none=>True|some A,some v=>Rv w mu π A v|_,_=>False) (q:match hi,j with|none,none=>True|some A,some v=>Rv w mu π A v|_,_=>False)
  (D:rF len lo hi=some (l,h)):(Instr.sliceBounds isS len cap z j none).run P w=.ok (l,h,cap) w/\l<=h/\h<=len:=by
 unfold rF at D;split at D
 ·rename_i R E e1 e2;split at D
  ·rename_i I;simp only[Bool.and_eq_true,decide_eq_true_eq]at I;cases D;obtain⟨⟨d1,d2⟩,d3⟩:=I;refine⟨?_,by omega,by omega⟩;cases lo with
   |none=>
    cases z with
    |some _=>exact C.elim
    |none=>
     cases e1;cases hi with
     |none=>
      cases j with
      |some _=>exact q.elim
      |none=>cases e2;simp[Instr.sliceBounds]
     |some A=>
      cases j with
      |none=>exact q.elim
      |some v=>
       obtain⟨k,rfl⟩:=kL q e2;have:E<=(cap:Int):=by omega
       simp[Instr.sliceBounds,Instr.sliceBound,asIntOf,this,d2]
   |some A=>
    cases z with
    |none=>exact C.elim
    |some v=>
     obtain⟨k,rfl⟩:=kL C e1;cases hi with
     |none=>
      cases j with
      |some _=>exact q.elim
      |none=>cases e2;simp[Instr.sliceBounds,Instr.sliceBound,asIntOf,d1,d2]
     |some A=>
      cases j with
      |none=>exact q.elim
      |some v=>
       obtain⟨k,rfl⟩:=kL q e2;have N:E<=(cap:Int):=by omega
       have J:0<=E:=by omega
       have O:(E.toNat:Int)=E:=Int.toNat_of_nonneg J;simp only[Instr.sliceBounds,Instr.sliceBound,asIntOf,Sem.run_bind,Sem.run_pure,Result.andThen_ok,Sem.run_ite,J,N,and_self,if_true,d1,O,d2]
  ·cases D
 ·cases D
end
section
variable{P:Program}{out:Nat->Prop}{B:Nat->Prop}{w:World}{π:List (Option PB)}{H:List Blk}
def FW(w:World)(mu:Nat->Prop)(π:List (Option PB))(lo:Option AV)(j:Option Value):Prop:=
 match lo,j with|none,none=>True|some A,some v=>Rv w mu π A v|_,_=>False
theorem zw(hI:Inv out B w π H){t:TypeId}{x:AV}{v:Value}{lo hi:Option AV}{N O:Option Value}{A:AV}(R:Rv w (aY out π H) π x v)
  (z:FW w (aY out π H) π lo N) (C:FW w (aY out π H) π hi O) (h:vM P H t x lo hi=some A):∃u,(Instr.sliceAt t v N O none).run P w=.ok u w/\Rv w (aY out π H) π A u:=by
 unfold vM at h;split at h
 ·rename_i e hu;split at h
  ·rename_i n nl cs len D;split at h
   ·rename_i l q E;cases h;rcases R with⟨rfl,rfl,rfl,rfl⟩|⟨b,o,cap,rfl,hle,S,U⟩|⟨rfl,rfl,a,cap,rfl⟩
    ·obtain⟨r,r1,r2⟩:=eJ (P:=P) (w:=w) (isS:=true) (Nat.le_refl 0) z C E;have e1:q=0:=by omega
     have e2:l=0:=by omega
     subst e1;subst e2;exact⟨.slice none 0 0,by simp[Instr.sliceAt,Instr.slice,run_underlying hu,r,cE D],.inl ⟨rfl,rfl,by simp,rfl⟩⟩
    ·obtain⟨r,r1,r2⟩:=eJ (P:=P) (w:=w) (isS:=true) hle z C E;by_cases hc:cap=l
     ·have e1:q-l=0:=by omega
      refine⟨.slice (some ⟨b,o,none⟩) (q-l) (cap-l),by simp[Instr.sliceAt,Instr.slice,run_underlying hu,r,cE D];exact fun h=>(h hc).elim,.inr (.inl ⟨b,o,cap-l,rfl,by omega,?_,?_⟩)⟩
      ·intro j;simp[e1]at j
      ·simp[e1,RvC]
     ·refine⟨.slice (some ⟨b,o+l*n,none⟩) (q-l) (cap-l),by simp[Instr.sliceAt,Instr.slice,run_underlying hu,r,cE D,hc,fV],.inr (.inl ⟨b,o+l*n,cap-l,rfl,by omega,?_,?_⟩)⟩
      ·intro j;exact S (by intro e0;subst e0;simp at j)
      ·exact RvC.take _ _ _ _ (RvC.drop _ _ _ _ U)
    ·obtain⟨r,r1,r2⟩:=eJ (P:=P) (w:=w) (isS:=true) (Nat.zero_le cap) z C E;have e1:q=0:=by omega
     have e2:l=0:=by omega
     subst e1;subst e2;by_cases hc:cap=0
     ·exact⟨.slice (some a) 0 0,by subst hc;simp[Instr.sliceAt,Instr.slice,run_underlying hu,r,cE D],.inr (.inr ⟨rfl,by simp,a,0,rfl⟩)⟩
     ·exact⟨.slice (some (a.add (0*n))) 0 cap,by simp[Instr.sliceAt,Instr.slice,run_underlying hu,r,cE D,hc],.inr (.inr ⟨rfl,by simp,_,cap,rfl⟩)⟩
   ·cases h
  ·rename_i n b off len es D;split at h
   ·rename_i l q E Y;cases h;obtain rfl:es=n:=by simpa using Y
    rcases R with⟨rfl,rfl⟩|⟨p,a,cap,h1,rfl,h2,Z,S⟩
    ·obtain⟨r,r1,r2⟩:=eJ (P:=P) (w:=w) (isS:=true) (Nat.le_refl 0) z C E;have e1:q=0:=by omega
     have e2:l=0:=by omega
     subst e1;subst e2;exact⟨.slice none 0 0,by simp[Instr.sliceAt,Instr.slice,run_underlying hu,r,cE D],.inl ⟨rfl,rfl⟩⟩
    obtain⟨r,r1,r2⟩:=eJ (P:=P) (w:=w) (isS:=true) h2 z C E;by_cases hc:cap=l
    ·refine⟨.slice (some a) (q-l) (cap-l),by simp[Instr.sliceAt,Instr.slice,run_underlying hu,r,cE D];exact fun h=>(h hc).elim,.inr ⟨p,a,cap-l,h1,rfl,by omega,Z,by omega⟩⟩
    ·have T:=S (by omega);refine⟨.slice (some (a.add (l*es))) (q-l) (cap-l),by simp[Instr.sliceAt,Instr.slice,run_underlying hu,r,cE D,hc],.inr ⟨p,_,cap-l,h1,rfl,by omega,by rw[T.1,fV],fun _=>⟨?_,?_⟩⟩⟩
     ·rw[T.1,fV,Nat.add_assoc]
     ·have e0:(cap-l)*es+l*es=cap*es:=by rw[<-Nat.add_mul];congr 1;omega
      omega
   ·cases h
  ·rename_i n D;split at h
   ·rename_i lh E;cases h;obtain rfl:v=.slice none 0 0:=R;obtain⟨l,q⟩:=lh;obtain⟨r,r1,r2⟩:=eJ (P:=P) (w:=w) (isS:=true) (Nat.le_refl 0) z C E;have e1:q=0:=by omega
    have e2:l=0:=by omega
    subst e1;subst e2;exact⟨.slice none 0 0,by simp[Instr.sliceAt,Instr.slice,run_underlying hu,r,cE D],rfl⟩
   ·cases h
  ·cases h
 ·rename_i len e hu;split at h
  ·rename_i n b off D;split at h
   ·rename_i l q cs E hH;split at h
    ·rename_i I;simp only[Bool.and_eq_true,decide_eq_true_eq]at I;cases h;obtain⟨p,h1,rfl⟩:=R;obtain⟨r,r1,r2⟩:=eJ (P:=P) (w:=w) (isS:=false) (Nat.le_refl len) z C E;obtain⟨⟨c,e',J,a1⟩,hC⟩:=hI.ok b _ p hH h1;by_cases hc:len=l
     ·refine⟨.slice (some ⟨p.blk,p.off+off,none⟩) (q-l) (len-l),by simp[Instr.sliceAt,run_underlying hu,Instr.sureAddr,r,cE D];exact fun h=>(h hc).elim,.inr ⟨p,_,len-l,h1,rfl,by omega,rfl,by omega⟩⟩
     ·refine⟨.slice (some ⟨p.blk,p.off+off+l*n,none⟩) (q-l) (len-l),by simp[Instr.sliceAt,run_underlying hu,Instr.sureAddr,r,cE D,hc,fV],.inr ⟨p,_,len-l,h1,rfl,by omega,rfl,fun _=>⟨by rw[Nat.add_assoc],?_⟩⟩⟩;have j:cs≠[]:=by
       intro e0;subst e0;have:0<len*n:=Nat.mul_pos (by omega) I.2;simp at I;omega
      have a6:=RvC.bound hC J j;have e0:(len-l)*n+l*n=len*n:=by rw[<-Nat.add_mul];congr 1;omega
      omega
    ·cases h
   ·cases h
  ·rename_i n cs off D;split at h
   ·rename_i l q E;cases h;obtain⟨b,o,rfl,S,U⟩:=R;obtain⟨r,r1,r2⟩:=eJ (P:=P) (w:=w) (isS:=false) (Nat.le_refl len) z C E;by_cases hc:len=l
    ·have e1:q-l=0:=by omega
     refine⟨.slice (some ⟨b,o+off,none⟩) (q-l) (len-l),by simp[Instr.sliceAt,run_underlying hu,Instr.sureAddr,r,cE D];exact fun h=>(h hc).elim,.inr (.inl ⟨b,o+off,len-l,rfl,by omega,?_,?_⟩)⟩
     ·intro j;simp[e1]at j
     ·simp[e1,RvC]
    ·refine⟨.slice (some ⟨b,o+off+l*n,none⟩) (q-l) (len-l),by simp[Instr.sliceAt,run_underlying hu,Instr.sureAddr,r,cE D,hc,fV],.inr (.inl ⟨b,o+off+l*n,len-l,rfl,by omega,?_,?_⟩)⟩
     ·intro j;exact S (by intro e0;subst e0;simp at j)
     ·rw[Nat.add_assoc];exact RvC.take _ _ _ _ (RvC.drop _ _ _ _ U)
   ·cases h
  ·cases h
 ·cases h
theorem uU{mu:Nat->Prop}{t:TypeId}{A:AV}{v x:Value}(j:Rv w mu π A v)(h:zh P t A x=true):
  (binOp .eql t v x).run P w=.ok (.bool false) w/\(binOp .neq t v x).run P w=.ok (.bool true) w/\∀op a b,(eqGuard op t a b v x).run P w=.ok () w:=by
 unfold zh at h;split at h
 ·rename_i e nl cs len hu;rcases j with⟨q,h1,_⟩|⟨b,o,cap,rfl,_⟩|⟨_,_,a,cap,rfl⟩
  ·subst q;subst h1;simp at h
  ·have he:=run_equal_slice_nil (P:=P) w t e (some ⟨b,o,none⟩) len cap hu;exact⟨by simp[binOp,he],by simp[binOp,he],fun op a b=>by cases op<;>simp[eqGuard]⟩
  ·have he:=run_equal_slice_nil (P:=P) w t e (some a) 0 cap hu;exact⟨by simp[binOp,he],by simp[binOp,he],fun op a b=>by cases op<;>simp[eqGuard]⟩
 ·rename_i e b off len es hu;rcases j with⟨rfl,_⟩|⟨p,a,cap,_,rfl,_⟩
  ·simp at h
  have he:=run_equal_slice_nil (P:=P) w t e (some a) len cap hu;exact⟨by simp[binOp,he],by simp[binOp,he],fun op a b=>by cases op<;>simp[eqGuard]⟩
 ·rename_i e b off hu;obtain⟨p,_,rfl⟩:=j;have he:=run_equal_pointer_nil (P:=P) w t (some ⟨p.blk,p.off+off,none⟩) (by simp[Program.pointee,hu]);exact⟨by simp[binOp,he],by simp[binOp,he],fun op a b=>by cases op<;>simp[eqGuard]⟩
 ·rename_i e cs off hu;obtain⟨b,o,rfl,_⟩:=j;have he:=run_equal_pointer_nil (P:=P) w t (some ⟨b,o+off,none⟩) (by simp[Program.pointee,hu]);exact⟨by simp[binOp,he],by simp[binOp,he],fun op a b=>by cases op<;>simp[eqGuard]⟩
 ·cases h
theorem qh{mu:Nat->Prop}{op:BinOp}{t:TypeId}{x y:Operand}{a b:AV}{q j:Value}{A:AV}(z:Rv w mu π a q)(I:Rv w mu π b j)(h:sZ P op t x y a b=some A):
  ∃u,(do eqGuard op t x y q j;binOp op t q j:Sem Value).run P w=.ok u w/\Rv w mu π A u:=by
 unfold sZ at h;split at h
 ·rename_i u v hu C;have e1:=kq a q u z hu;have e2:=kq b j v I C;subst e1;subst e2;split at h
  ·rename_i r J;cases h;exact⟨r,ij J w,rfl⟩
  ·cases h
 ·rename_i v hu C;have e2:=kq b j v I C;subst e2;split at h
  ·rename_i D;cases h;obtain⟨h1,_,E⟩:=uU (P:=P) z D;exact⟨_,by simp[h1,E],rfl⟩
  ·rename_i D;cases h;obtain⟨_,h1,E⟩:=uU (P:=P) z D;exact⟨_,by simp[h1,E],rfl⟩
  ·cases h
 ·cases h
theorem kY{mu:Nat->Prop}{A:AV}{v:Value}{cs:List AV}(h:Rv w mu π A v)(hc:yl A=some cs):∃vs:Array Value,v=.agg vs/\RvL w mu π cs vs.toList:=by
 unfold yl at hc;split at hc
 ·cases hc;exact h
 ·cases hc;cases h;exact⟨_,rfl,gJ _⟩
 ·cases hc
theorem uc{mu:Nat->Prop}{J:Nat}{f:TypeId->AV->AV->Option Bool}(C:∀t a b r q z,f t a b=some r->Rv w mu π a q->Rv w mu π b z->(Op.equalIn J t q z).run P w=.ok r w){xs ys:List AV}{vs us:Array Value}(D:RvL w mu π xs vs.toList)(E:RvL w mu π ys us.toList):
  ∀(j:List Field) (r:Bool),Af P f xs ys j=some r->(Op.eqFields J vs us j).run P w=.ok r w
 |[],r,h=>by cases h;simp[Op.eqFields]
 |g::j,r,h=>by
  simp only[Af]at h;simp only[Op.eqFields];split at h
  ·rename_i I;rw[if_neg (by simpa using I)];exact uc C D E j r h
  ·rename_i I;rw[if_pos (by simpa using I)];split at h
   ·rename_i a b N O;obtain⟨q,R,a2⟩:=kQ D N;obtain⟨z,S,T⟩:=kQ E O;split at h
    ·rename_i r0 s U hs;cases h;have Y:=uc C D E j s hs;simp only[Sem.run_bind,R,S,Result.andThen_ok,C _ a b r0 q z U a2 T];cases r0<;>simp[Y]
    ·cases h
   ·cases h
theorem xZ{mu:Nat->Prop}{C:Nat}{e:TypeId}{f:AV->AV->Option Bool}(D:∀a b r q z,f a b=some r->Rv w mu π a q->Rv w mu π b z->(Op.equalIn C e q z).run P w=.ok r w){n:Nat}{xs ys:List AV}{vs us:Array Value}(E:RvL w mu π xs vs.toList)(I:RvL w mu π ys us.toList):
  ∀(m i:Nat) (r:Bool),BS P f e n xs ys m i=some r->
   ((forIn (List.range' i m) ((none,()):Option Bool×Unit) fun j _=>do
    let a<-part e vs (j*n);let b<-part e us (j*n);let c<-Op.equalIn C e a b
    if (!c)=true then pure (.done (some false,()))else pure (.yield (none,())):Sem (Option Bool×Unit)).run P w)=.ok (if r then(none,())else(some false,())) w
 |0,i,r,h=>by cases h;simp
 |m+1,i,r,h=>by
  simp only[BS]at h;split at h
  ·rename_i a b J N;obtain⟨q,O,a2⟩:=kQ E J;obtain⟨z,R,S⟩:=kQ I N;split at h
   ·rename_i r0 s T hs;cases h;have U:=xZ D E I m (i+1) s hs;simp only[List.range'_succ,List.forIn_cons,Sem.run_bind,O,R,Result.andThen_ok,D a b r0 q z T a2 S];cases r0
    ·simp
    ·simp only[Bool.not_true,Bool.false_eq_true,if_false,Sem.run_pure,Result.andThen_ok,Bool.true_and];exact U
   ·cases h
  ·cases h
theorem po{mu:Nat->Prop}:∀(d j:Nat) (t:TypeId) (a b:AV) (r:Bool) (C D:Value),d<=j->wc P d t a b=some r->Rv w mu π a C->Rv w mu π b D->(Op.equalIn j t C D).run P w=.ok r w
 |0,_,_,_,_,_,_,_,_,h,_,_=>by cases h
 |d+1,0,_,_,_,_,_,_,O,_,_,_=>by omega
 |d+1,j+1,t,a,b,r,C,D,O,h,q,z=>by
  simp only[wc]at h;split at h
  ·rename_i S hu;split at h
   ·rename_i k x k' y;split at h
    ·rename_i hk;cases h;obtain rfl:=IntKind.pZ hk;cases q;cases z;exact run_equalIn_int w j t _ _ x y hu
    ·cases h
   ·cases h
  ·rename_i hu;split at h
   ·cases h;cases q;cases z;exact run_equalIn_bool' w j t _ _ hu
   ·cases h
  ·rename_i R hu;split at h
   ·rename_i xs ys hs I J;obtain⟨vs,rfl,h1⟩:=kY q I;obtain⟨us,rfl,N⟩:=kY z J;have E:P.fieldsOf t=R:=by unfold Program.fieldsOf;rw[hu]
    rw[run_equalIn_struct w j t vs us (by rw[E];exact hu) hs,E];exact uc (fun t a b r C D h q z=>po d j t a b r C D (by omega) h q z) h1 N _ r h
   ·cases h
  ·rename_i n e hu;split at h
   ·rename_i k xs ys hs I J;obtain⟨vs,rfl,h1⟩:=kY q I;obtain⟨us,rfl,N⟩:=kY z J;have key:=xZ (n:=k) (fun a b r C D h q z=>po d j e a b r C D (by omega) h q z) h1 N n 0 r h;simp only[Op.equalIn,Sem.run_bind,run_underlying hu,Result.andThen_ok,cE hs,Std.Legacy.Range.forIn_eq_forIn_range',Std.Legacy.Range.size,Nat.sub_zero,Nat.add_sub_cancel,Nat.div_one];rw[key];cases r<;>simp
   ·cases h
  ·cases h
theorem uV{mu:Nat->Prop}{op:BinOp}{t:TypeId}{x y:Operand}{a b:AV}{z C:Value}{A:AV}(j:Rv w mu π a z)(q:Rv w mu π b C)(h:zF P op t a b=some A):
  ∃u,(do eqGuard op t x y z C;binOp op t z C:Sem Value).run P w=.ok u w/\Rv w mu π A u:=by
 unfold zF at h;split at h
 ·rename_i xs ys D E I;obtain⟨vs,rfl,_⟩:=kY j E;obtain⟨us,rfl,_⟩:=kY q I;split at h
  ·rename_i r J;cases h;refine⟨.bool r,?_,rfl⟩;simp only[Sem.run_bind,run_eqGuard_agg w .eql t x y vs us D,Result.andThen_ok,run_eql_struct,po 8 10000 t a b r _ _ (by omega) J j q]
  ·cases h
 ·rename_i xs ys D E I;obtain⟨vs,rfl,_⟩:=kY j E;obtain⟨us,rfl,_⟩:=kY q I;split at h
  ·rename_i r J;cases h;refine⟨.bool (!r),?_,rfl⟩;simp only[Sem.run_bind,run_eqGuard_agg w .neq t x y vs us D,Result.andThen_ok,run_neq_struct,po 8 10000 t a b r _ _ (by omega) J j q]
  ·cases h
 ·cases h
theorem zV{mu:Nat->Prop}{op:BinOp}{t:TypeId}{x y:Operand}{a b:AV}{z C:Value}{A:AV}(j:Rv w mu π a z)(q:Rv w mu π b C)(h:rI P op t x y a b=some A):
  ∃u,(do eqGuard op t x y z C;binOp op t z C:Sem Value).run P w=.ok u w/\Rv w mu π A u:=by
 unfold rI at h;split at h
 ·rename_i k m k' n;split at h
  ·rename_i hk;obtain rfl:=IntKind.pZ hk;split at h
   ·rename_i r D;cases h;cases j;cases q;exact⟨r,zj D w,rfl⟩
   ·exact qh j q h
  ·exact qh j q h
 ·exact uV j q h
 ·exact uV j q h
 ·exact qh j q h
theorem Ac{mu:Nat->Prop}{src dst:TypeId}{a:AV}{v u:Value}(j:Rv w mu π a v)(h:DI P src dst a=some u):(convert src dst v).run P w=.ok u w:=by
 unfold DI at h;split at h
 ·split at h
  ·rename_i d k hs q;cases h;cases j;simp[convert,run_underlying hs,run_underlying q,Conv.intToInt,ke]
  ·cases h
 ·cases h
end
end Go.Eng


namespace Go.Eng
open Go Go.RowKit Go.MapKept
variable[Dr]
section
variable{P:Program}{out:Nat->Prop}{B:Nat->Prop}{w:World}{π:List (Option PB)}{H:List Blk}
theorem wm:∀(l j:List Value),rr l j=some true->l=j/\(j.zip l).all (fun(x,y)=>Instr.sameBits 9999 x y)=true
 |[],[],_=>⟨rfl,rfl⟩
 |.int k x::l,.int k' y::j,h=>by
  simp only[rr]at h;split at h
  ·rename_i z hk h1;simp only[Option.some.injEq,Bool.and_eq_true,beq_iff_eq]at h;obtain⟨rfl,rfl⟩:=h;obtain rfl:=IntKind.pZ hk;obtain⟨rfl,q⟩:=wm l j h1;exact⟨rfl,by rw[List.zip_cons_cons,List.all_cons,q];simp[Instr.sameBits]⟩
  ·cases h
 |[],_::_,h=>by simp[rr]at h
theorem AZ{k v:Value}(h:kEq k v=some true):Instr.sameBits 10000 v k=true:=by
 unfold kEq at h;split at h
 ·rename_i a b;obtain⟨h1,j⟩:=wm _ _ h;have hs:b.size=a.size:=by have:=congrArg List.length h1;simpa using this.symm
  show(b.size==a.size&&(b.toList.zip a.toList).all fun(x,y)=>Instr.sameBits 9999 x y)=true;rw[j,hs];simp
 ·split at h
  ·rename_i q;have e:=IntKind.pZ q;subst e;simp only[Option.some.injEq,beq_iff_eq]at h;subst h;simp[Instr.sameBits]
  ·cases h
 ·simp only[Option.some.injEq,beq_iff_eq]at h;subst h;simp[Instr.sameBits]
 ·cases h
theorem oT{e:TypeId}(h:qu P e=true):(∃k,P.underlying e=some (.int k))/\fW P e=some 1/\Bj P e=some false:=by
 unfold qu at h;split at h
 ·rename_i k n hu hs;obtain rfl:=Nat.eq_of_beq_eq_true h;exact⟨⟨k,hu⟩,hs,by unfold Bj;rw[hu]⟩
 ·cases h
theorem AD{e:TypeId}(h:qu P e=true){k k':IntKind}{x y:Int}(hk:IntKind.tJ k k'=true)(d:Nat):wc P (d+1) e (.at (.int k x)) (.at (.int k' y))=some (x==y):=by
 obtain⟨⟨q,hu⟩,_,_⟩:=oT h;simp only[wc,hu,hk]
theorem yR{e:TypeId}(h:qu P e=true)(xs:List Value)(i:Nat):qF P e (xs.map .at) i=(xs[i]?).map .at:=by
 obtain⟨_,_,j⟩:=oT h;simp only[qF,j,List.getElem?_map]
theorem drop_cons{xs l:List Value}{x:Value}{i:Nat}(h:xs.drop i=x::l):xs[i]?=some x/\xs.drop (i+1)=l:=by
 have h1:xs[i]?=some x:=by rw[<-List.head?_drop,h];rfl
 refine⟨h1,?_⟩;rw[<-List.drop_drop,h];rfl
theorem D9{xs ys:List Value}:∀(j:List Field) (i:Nat) (r:Bool),vZ P j i=true->rr (xs.drop i) (ys.drop i)=some r->(xs.drop i).length=j.length->Af P (wc P 1) (xs.map .at) (ys.map .at) j=some r
 |[],i,r,_,h,q=>by
  have:xs.drop i=[]:=List.length_eq_zero_iff.1 q;rw[this]at h;cases z:ys.drop i with
  |nil=>rw[z]at h;simp only[rr]at h;simp only[Af];exact h
  |cons y l=>rw[z]at h;simp[rr]at h
 |f::j,i,r,hw,h,q=>by
  simp only[vZ,Bool.and_eq_true]at hw;obtain⟨⟨⟨J,D⟩,I⟩,N⟩:=hw;have D:=Nat.eq_of_beq_eq_true D;cases C:xs.drop i with
  |nil=>rw[C]at q;simp at q
  |cons x l=>
   cases z:ys.drop i with
   |nil=>rw[C,z]at h;cases x<;>simp[rr]at h
   |cons y Z=>
    obtain⟨x1,x2⟩:=drop_cons C;obtain⟨O,R⟩:=drop_cons z;rw[C,z]at h;have E:(xs.drop (i+1)).length=j.length:=by rw[x2];rw[C]at q;simpa using q
    unfold rr at h;split at h
    ·rename_i e1 _;cases e1
    ·rename_i k a l0 k' b S e1 e2;cases e1;cases e2;split at h
     ·rename_i T hk h1;cases h;have U:=D9 (xs:=xs) (ys:=ys) j (i+1) T N (by rw[x2,R];exact h1) E;have Y:decide (f.name= "_")=false:=by simpa using J
      simp only[Af,Y,yR I,D,x1,O,Option.map_some,AD I hk,U]
     ·cases h
    ·cases h
theorem DK{e:TypeId}(C:qu P e=true){xs ys:List Value}:∀(m i:Nat) (r:Bool),rr (xs.drop i) (ys.drop i)=some r->(xs.drop i).length=m->BS P (wc P 1 e) e 1 (xs.map .at) (ys.map .at) m i=some r
 |0,i,r,h,j=>by
  have:xs.drop i=[]:=List.length_eq_zero_iff.1 j;rw[this]at h;cases q:ys.drop i with
  |nil=>rw[q]at h;simp only[rr]at h;simp only[BS];exact h
  |cons y l=>rw[q]at h;simp[rr]at h
 |m+1,i,r,h,j=>by
  cases z:xs.drop i with
  |nil=>rw[z]at j;simp at j
  |cons x l=>
   cases q:ys.drop i with
   |nil=>rw[z,q]at h;cases x<;>simp[rr]at h
   |cons y R=>
    obtain⟨x1,x2⟩:=drop_cons z;obtain⟨E,I⟩:=drop_cons q;rw[z,q]at h;have D:(xs.drop (i+1)).length=m:=by rw[x2];rw[z]at j;simpa using j
    unfold rr at h;split at h
    ·rename_i e1 _;cases e1
    ·rename_i k a S k' b J e1 e2;cases e1;cases e2;split at h
     ·rename_i N hk h1;cases h;have O:=DK C (xs:=xs) (ys:=ys) m (i+1) N (by rw[x2,I];exact h1) D;simp only[BS,Nat.mul_one,yR C,x1,E,Option.map_some,AD C hk,O]
     ·cases h
    ·cases h
theorem xt{t:TypeId}{a b:Array Value}{r:Bool}(j:oL P t a=true)(h:rr a.toList b.toList=some r)(w:World):(Op.equal t (.agg a) (.agg b)).run P w=.ok r w:=by
 have key:wc P 2 t (.at (.agg a)) (.at (.agg b))=some r:=by
  unfold oL at j;split at j
  ·rename_i n e hu;simp only[Bool.and_eq_true]at j;obtain⟨⟨h1,q⟩,_⟩:=j;obtain⟨_,hs,_⟩:=oT h1;have q:=Nat.eq_of_beq_eq_true q;simp only[wc,hu,hs,yl];exact DK h1 n 0 r (by simpa using h) (by simpa using q)
  ·rename_i C hu;simp only[Bool.and_eq_true]at j;obtain⟨⟨⟨h1,q⟩,_⟩,z⟩:=j;have q:=Nat.eq_of_beq_eq_true q;have z:P.stoodInHeld t=false:=by simpa using z
   simp only[wc,hu,z,yl];exact D9 C.toList 0 r h1 (by simpa using h) (by simpa using q)
  ·cases j
 exact po (P:=P) (w:=w) (mu:=fun _=>False) (π:=[]) 2 10000 t _ _ r _ _ (by omega) key rfl rfl
theorem C5{e:TypeId}(h:qu P e=true)(em:Bool)(n:Nat){k:IntKind}{x:Int}(w:World):(Instr.checkKey em (n+1) e (.int k x)).run P w=.ok () w:=by
 obtain⟨⟨q,hu⟩,_,_⟩:=oT h;simp[Instr.checkKey,run_underlying hu]
theorem xr:∀(l:List Value),uE l=true->∀(i:Nat) (v:Value),l[i]?=some v->∃k x,v=.int k x
 |[],_,i,v,hi=>by simp at hi
 |.int k x::l,h,i,v,hi=>by
  cases i with
  |zero=>simp at hi;exact⟨k,x,hi.symm⟩
  |succ i=>exact xr l (by simpa [uE]using h) i v (by simpa using hi)
theorem Ak{e:TypeId}(h:qu P e=true){xs:Array Value}{i:Nat}{v:Value}(j:xs[i]?=some v)(w:World):(part e xs i).run P w=.ok v w:=by
 obtain⟨⟨q,hu⟩,_,_⟩:=oT h;simp[part,isAgg,run_underlying hu,j]
theorem AB{t:TypeId}{a:Array Value}(q:oL P t a=true)(em:Bool)(n:Nat)(w:World)(O:∀(e:TypeId) (k:IntKind) (x:Int),qu P e=true->(Instr.checkKey em n e (.int k x)).run P w=.ok () w):(Instr.checkKey em (n+1) t (.agg a)).run P w=.ok () w:=by
 unfold oL at q;split at q
 ·rename_i m0 e hu;simp only[Bool.and_eq_true]at q;obtain⟨⟨h1,C⟩,E⟩:=q;obtain⟨_,hs,_⟩:=oT h1;have C:=Nat.eq_of_beq_eq_true C;have key:∀(m i:Nat),i+m<=a.size->((forIn (List.range' i m) PUnit.unit fun j _=>do
    let s<-sizeOf e;let v<-part e a (j*s)
    Instr.checkKey em n e v
    pure (ForInStep.yield PUnit.unit):Sem PUnit).run P w)=.ok PUnit.unit w:=by
   intro m;induction m with
   |zero=>intro i _;simp
   |succ m I=>
    intro i hi;have z:i<a.size:=by omega
    have D:a[i]?=some a[i]:=Array.getElem?_eq_getElem z;obtain⟨k,x,e1⟩:=xr a.toList E i a[i] (by rw[Array.getElem?_toList];exact D);simp only[List.range'_succ,List.forIn_cons,Sem.run_bind,cE hs,Result.andThen_ok,Nat.mul_one,Ak h1 D,e1,O e k x h1,Sem.run_pure];exact I (i+1) (by omega)
  have:=key m0 0 (by omega);simp only[Instr.checkKey,Sem.run_bind,run_underlying hu,Result.andThen_ok,Std.Legacy.Range.forIn_eq_forIn_range',Std.Legacy.Range.size,Nat.sub_zero,Nat.add_sub_cancel,Nat.div_one,this,Sem.run_pure]
 ·rename_i S hu;simp only[Bool.and_eq_true]at q;obtain⟨⟨⟨h1,C⟩,E⟩,_⟩:=q;have C:=Nat.eq_of_beq_eq_true C;have key:∀(l:List Field) (i:Nat),vZ P l i=true->i+l.length<=a.size->((forIn l PUnit.unit fun f _=>
    if f.name≠ "_" then do
     let v<-part f.type a f.offset
     Instr.checkKey em n f.type v
     pure (ForInStep.yield PUnit.unit)
    else pure (ForInStep.yield PUnit.unit):Sem PUnit).run P w)=.ok PUnit.unit w:=by
   intro l;induction l with
   |nil=>intro i _ _;simp
   |cons f l I=>
    intro i hw hi;simp only[vZ,Bool.and_eq_true]at hw;obtain⟨⟨⟨T,J⟩,R⟩,U⟩:=hw;have J:=Nat.eq_of_beq_eq_true J;have z:i<a.size:=by simp at hi;omega
    have D:a[i]?=some a[i]:=Array.getElem?_eq_getElem z;obtain⟨k,x,e1⟩:=xr a.toList E i a[i] (by rw[Array.getElem?_toList];exact D);have N:f.name≠ "_" :=by simpa using T
    simp only[List.forIn_cons,Sem.run_bind,N,ne_eq,not_false_eq_true,if_true,J,Ak R D,Result.andThen_ok,e1,O f.type k x R,Sem.run_pure];exact I (i+1) U (by simp at hi;omega)
  have:=key S.toList 0 h1 (by omega);simp only[Instr.checkKey,Sem.run_bind,run_underlying hu,Result.andThen_ok];rw[<-Array.forIn_toList];have e:=congrArg (fun r=>r.andThen fun(a:PUnit) w'=>Sem.run P (pure ()) w') this;simp only[Result.andThen_ok,Sem.run_pure]at e;first|exact this|exact e
 ·cases q
theorem Bn{t:TypeId}{a:Array Value}(j:oL P t a=true)(em:Bool)(w:World):(Instr.checkKey em 10000 t (.agg a)).run P w=.ok () w:=AB j em 9999 w fun e k x h=>C5 h em 9998 w
theorem tD{mu:Nat->Prop}{t:TypeId}{a:Array Value}(I:oL P t a=true):∀(es:List (Value×AV)) (l:List MapEntry) (i0 j:Nat) (r:Option (Nat×AV)),RvM w mu π j es l->mG (.agg a) es i0=some r->
  (r=none/\(Instr.findAsking t (.agg a) l i0).run P w=.ok none w)\/∃(C:Nat) (e:MapEntry) (A:AV),r=some (i0+C,A)/\(Instr.findAsking t (.agg a) l i0).run P w=.ok (some (i0+C,e.val)) w/\l[C]?=some e/\es[C]?=some (e.key,A)/\e.born=j+C/\Rv w mu π A e.val/\Instr.sameBits 10000 e.key (.agg a)=true
 |[],l,i0,j,r,h,D=>by cases h;cases D;exact .inl ⟨rfl,by simp[Instr.findAsking]⟩
 |(k',A)::es,l,i0,j,r,h,D=>by
  obtain⟨e,J,rfl,rfl,O,R,S⟩:=h;simp only[mG]at D;have E:∀b,kEq (.agg a) e.key=some b->∃c,e.key=.agg c/\rr a.toList c.toList=some b:=by
   intro b z;cases hk:e.key<;>rw[hk]at z<;>simp only[kEq]at z;all_goals first|exact⟨_,rfl,z⟩|cases z
  split at D
  ·rename_i z;cases D;obtain⟨c,hc,N⟩:=E _ z;refine .inr ⟨0,e,A,rfl,?_,rfl,rfl,O,R,AZ z⟩;simp only[Instr.findAsking,hc,Sem.run_bind,xt I N,Result.andThen_ok,if_true,Sem.run_pure,Nat.add_zero]
  ·rename_i z;obtain⟨c,hc,N⟩:=E _ z;have q:(Instr.findAsking t (.agg a) (e::J) i0).run P w=(Instr.findAsking t (.agg a) J (i0+1)).run P w:=by
    simp only[Instr.findAsking,hc,Sem.run_bind,xt I N,Result.andThen_ok,Bool.false_eq_true,if_false]
   rcases tD I es J (i0+1) (j+1) r S D with⟨e1,e2⟩|⟨C,T,U,e1,e2,e3,Y,e5,Z,e7⟩
   ·exact .inl ⟨e1,by rw[q];exact e2⟩
   ·exact .inr ⟨C+1,T,U,by rw[e1];congr 2;omega,by rw[q,e2];congr 3;omega,by simpa using e3,by simpa using Y,by omega,Z,e7⟩
  ·cases D
theorem Cv{d:TypeDesc}{k v:Value}{b:Bool}(hk:IsKey d k)(h:kEq k v=some b):Instr.sameNow d k v=some b:=by
 unfold kEq at h;split at h
 ·cases d<;>simp only[IsKey]at hk
 ·rename_i q x z y;split at h
  ·rename_i j;cases h;have e:=IntKind.pZ j;subst e;cases d<;>simp only[IsKey]at hk;simp[Instr.sameNow]
  ·cases h
 ·cases h;cases d<;>simp only[IsKey]at hk;simp[Instr.sameNow]
 ·cases h
theorem wD{mu:Nat->Prop}{d:TypeDesc}{k:Value}(hk:IsKey d k):∀(es:List (Value×AV)) (l:List MapEntry) (i0 j:Nat) (r:Option (Nat×AV)),RvM w mu π j es l->mG k es i0=some r->
  (r=none/\Instr.findNow d k l i0=some none)\/∃(q:Nat) (e:MapEntry) (A:AV),r=some (i0+q,A)/\Instr.findNow d k l i0=some (some (i0+q,e.val))/\l[q]?=some e/\es[q]?=some (e.key,A)/\e.born=j+q/\Rv w mu π A e.val/\Instr.sameBits 10000 e.key k=true
 |[],l,i0,j,r,h,z=>by cases h;cases z;exact .inl ⟨rfl,rfl⟩
 |(k',A)::es,l,i0,j,r,h,z=>by
  obtain⟨e,D,rfl,rfl,E,I,J⟩:=h;simp only[mG]at z;split at z
  ·rename_i C;cases z;have g1:=Cv hk C;exact .inr ⟨0,e,A,rfl,by simp[Instr.findNow,g1],rfl,rfl,E,I,AZ C⟩
  ·rename_i C;have g1:=Cv hk C;rcases wD hk es D (i0+1) (j+1) r J z with⟨e1,e2⟩|⟨q,N,O,e1,e2,e3,R,U,S,T⟩
   ·exact .inl ⟨e1,by simp[Instr.findNow,g1,e2]⟩
   ·exact .inr ⟨q+1,N,O,by rw[e1];congr 2;omega,by simp[Instr.findNow,g1,e2];omega,by simpa using e3,by simpa using R,by omega,S,T⟩
  ·cases z
theorem nG{mu:Nat->Prop}{t:TypeId}{k:Value}(hk:ko P t k=true){es:List (Value×AV)}{l:List MapEntry}{r:Option (Nat×AV)}(h:RvM w mu π 0 es l)(D:mG k es 0=some r):
  (∀em,(Instr.checkKey em 10000 t k).run P w=.ok () w)/\((r=none/\(Instr.findKey t k l).run P w=.ok none w)\/∃(j:Nat) (e:MapEntry) (A:AV),r=some (0+j,A)/\(Instr.findKey t k l).run P w=.ok (some (0+j,e.val)) w/\l[j]?=some e/\es[j]?=some (e.key,A)/\e.born=0+j/\Rv w mu π A e.val/\Instr.sameBits 10000 e.key k=true):=by
 have simple:∀d,P.underlying t=some d->IsKey d k->_:=fun d C z=>by
  refine And.intro (a:=∀em,(Instr.checkKey em 10000 t k).run P w=.ok () w) (b:=(r=none/\(Instr.findKey t k l).run P w=.ok none w)\/∃(j:Nat) (e:MapEntry) (A:AV),r=some (0+j,A)/\(Instr.findKey t k l).run P w=.ok (some (0+j,e.val)) w/\l[j]?=some e/\es[j]?=some (e.key,A)/\e.born=0+j/\Rv w mu π A e.val/\Instr.sameBits 10000 e.key k=true) (fun em=>Go.MapKept.run_checkKey C z em 9999) ?_;rcases wD z es l 0 0 _ h D with⟨e1,e2⟩|⟨j,E,A2,e1,e2,e3,I,J,N,O⟩
  ·exact .inl ⟨e1,Go.MapKept.run_findKey C e2⟩
  ·exact .inr ⟨j,E,A2,e1,Go.MapKept.run_findKey C e2,e3,I,J,N,O⟩
 unfold ko at hk;split at hk
 ·rename_i R S n hu;exact simple _ hu (IntKind.pZ hk).symm
 ·rename_i b hu;exact simple _ hu trivial
 ·rename_i T a hu;refine⟨fun em=>Bn hk em w,?_⟩;have hw:(Instr.findKey t (.agg a) l).run P w=(Instr.findAsking t (.agg a) l).run P w:=by
   cases l with
   |nil=>simp[Instr.findKey,run_underlying hu,Instr.findNow,Instr.findAsking]
   |cons e l=>
    unfold oL at hk;split at hk
    ·rename_i n U q;simp[Instr.findKey,run_underlying q,Instr.findNow,Instr.sameNow]
    ·rename_i Y q;simp[Instr.findKey,run_underlying q,Instr.findNow,Instr.sameNow]
    ·cases hk
  rw[hw];exact tD hk es l 0 0 _ h D
 ·cases hk
theorem RvM.len{mu:Nat->Prop}:∀(es:List (Value×AV)) (l:List MapEntry) (j:Nat),RvM w mu π j es l->l.length=es.length
 |[],_,_,h=>by cases h;rfl
 |(k,A)::es,_,j,h=>by obtain⟨e,q,rfl,_,_,_,z⟩:=h;simp[RvM.len es q _ z]
theorem RvM.get{mu:Nat->Prop}:∀(es:List (Value×AV)) (l:List MapEntry) (j i:Nat) (k:Value) (A:AV),RvM w mu π j es l->es[i]?=some (k,A)->∃e,l[i]?=some e/\e.key=k/\e.born=j+i/\Rv w mu π A e.val
 |[],_,_,i,k,A,_,h=>by simp at h
 |(k',J)::es,_,j,i,k,A,h,hi=>by
  obtain⟨e,q,rfl,z,C,D,E⟩:=h;cases i with
  |zero=>simp at hi;obtain⟨rfl,rfl⟩:=hi;exact⟨e,rfl,z,C,D⟩
  |succ i=>
   obtain⟨I,g1,g2,g3,g4⟩:=RvM.get es q (j+1) i k A E (by simpa using hi);exact⟨I,by simpa using g1,g2,by omega,g4⟩
theorem RvM.set{mu:Nat->Prop}{k:Value}{A:AV}{v:Value}(q:Rv w mu π A v):∀(es:List (Value×AV)) (l:List MapEntry) (j i:Nat),RvM w mu π j es l->RvM w mu π j (es.set i (k,A)) (l.modify i fun e=>{e with key:=k,val:=v})
 |[],_,_,i,h=>by cases h;cases i<;>simp[RvM]
 |(k',J)::es,_,j,i,h=>by
  obtain⟨e,z,rfl,E,C,I,D⟩:=h;cases i with
  |zero=>exact⟨_,z,rfl,rfl,C,q,D⟩
  |succ i=>exact⟨e,_,rfl,E,C,I,RvM.set q es z (j+1) i D⟩
theorem RvM.snoc{mu:Nat->Prop}{k:Value}{A:AV}{v:Value}(q:Rv w mu π A v):∀(es:List (Value×AV)) (l:List MapEntry) (j:Nat),RvM w mu π j es l->RvM w mu π j (es++[(k,A)]) (l++[{key:=k,val:=v,born:=j+es.length}])
 |[],_,j,h=>by cases h;exact⟨_,[],rfl,rfl,rfl,q,rfl⟩
 |(k',z)::es,_,j,h=>by
  obtain⟨e,C,rfl,D,E,I,J⟩:=h;have:=RvM.snoc (k:=k) q es C (j+1) J;rw[show j+1+es.length=j+((k',z)::es).length by simp;omega]at this;exact⟨e,_,rfl,D,E,I,this⟩
theorem oq(q:Inv out B w π H){x:AV}{v:Value}{b:Nat}{es:List (Value×AV)}(z:Rv w (aY out π H) π x v)(h:lL H x=some (b,es)):
  H[b]?=some (.map es)/\∃(p:PB) (a:Array MapEntry),v=.map (some p.blk)/\π[b]?=some (some p)/\w.heap[p.blk]?=some (.map a a.size)/\RvM w (aY out π H) π 0 es a.toList:=by
 unfold lL at h;split at h
 ·rename_i D;split at h
  ·rename_i es' j;cases h;obtain⟨p,hp,rfl⟩:=z;obtain⟨a,h1,C⟩:=q.ok _ _ p j hp;exact⟨j,p,a,rfl,hp,h1,C⟩
  ·cases h
 ·cases h
theorem wC{e:TypeId}{z:AV}(h:yN P e=some z):∃j,(∀w,(zeroValue e).run P w=.ok j w)/\∀(w:World) (mu:Nat->Prop) (π:List (Option PB)),Rv w mu π z j:=by
 unfold yN at h;split at h
 ·rename_i i hi;split at h
  ·rename_i a q;cases h;exact⟨.agg a,fun w=>by simp[zeroValue,typeInfo,hi,q],fun w mu π=>⟨a,rfl,gJ _⟩⟩
  ·rename_i v _ C;cases h;exact⟨v,fun w=>by simp[zeroValue,typeInfo,hi,C],fun w mu π=>rfl⟩
  ·cases h
 ·cases h
theorem yu(Z:Inv out B w π H){t:TypeId}{x ix:AV}{v vi:Value}{ok:Bool}{A:AV}(hx:Rv w (aY out π H) π x v)(hi:Rv w (aY out π H) π ix vi)(h:gF P H t x ix ok=some A):
  ∃u,(Instr.lookup t v vi ok).run P w=.ok u w/\Rv w (aY out π H) π A u:=by
 unfold gF at h;split at h
 ·rename_i kt e b es k hu hm E;obtain⟨_,p,a,rfl,hp,R,S⟩:=oq Z hx hm;obtain rfl:vi=k:=kq ix vi k hi E;have j:∀{I:AV} {u:Value} {c:Bool},Rv w (aY out π H) π I u->Rv w (aY out π H) π (.tup [I,.at (.bool c)]) (.tuple #[u,.bool c]):=fun h=>⟨_,rfl,_,_,rfl,h,_,_,rfl,rfl,rfl⟩
  split at h
  ·rename_i z i I hk T J;obtain⟨q,C⟩:=nG hk S J;rcases C with⟨e1,_⟩|⟨jx,N,A2,e1,e2,_,_,_,U,_⟩
   ·cases e1
   ·cases e1;have run:∀o,(Instr.lookup t (.map (some p.blk)) vi o).run P w=.ok (if o then .tuple #[N.val,.bool true]else N.val) w:=by
     intro o;simp only[Instr.lookup,Sem.run_bind,run_underlying hu,Result.andThen_ok,Go.MapKept.run_getObj_map R,Sem.run_pure,q,e2]
    cases h;refine⟨_,run ok,?_⟩;cases ok
    ·exact U
    ·exact j U
  ·rename_i z hk T J;obtain⟨q,C⟩:=nG hk S J;obtain⟨Y,O,D⟩:=wC T;rcases C with⟨_,e2⟩|⟨jx,N,A2,e1,_⟩
   ·have run:∀o,(Instr.lookup t (.map (some p.blk)) vi o).run P w=.ok (if o then .tuple #[Y,.bool false]else Y) w:=by
     intro o;simp only[Instr.lookup,Sem.run_bind,run_underlying hu,Result.andThen_ok,Go.MapKept.run_getObj_map R,Sem.run_pure,q,e2,O]
    cases h;refine⟨_,run ok,?_⟩;cases ok
    ·exact D _ _ _
    ·exact j (D _ _ _)
   ·cases e1
  ·cases h
 ·cases h
theorem toList_modify(a:Array MapEntry)(i:Nat)(f:MapEntry->MapEntry):(a.modify i f).toList=a.toList.modify i f:=by simp
theorem vr(j:Inv out B w π H){b:Nat}{es es':List (Value×AV)}{p:PB}{a a':Array MapEntry}(hH:H[b]?=some (.map es))(hp:π[b]?=some (some p))(q:w.heap[p.blk]?=some (.map a a.size))
  (z:∀(w':World) (mu':Nat->Prop),(∀A v,Rv w (aY out π H) π A v->Rv w' mu' π A v)->RvM w' mu' π 0 es' a'.toList):
  ∃w',w'={w with heap:=w.heap.setIfInBounds p.blk (.map a' a'.size)}/\Ext B w w' (aY out π H) (aY out π (bj H [(b,.map es')])) π π/\Inv out B w' π (bj H [(b,.map es')]):=by
 have hu:bj H [(b,.map es')]=H.set b (.map es'):=by simp[bj,upd,aW hH]
 rw[hu];refine⟨_,rfl,?_⟩;obtain⟨g1,g2⟩:=heap_set (o':=.map a' a'.size) q;exact j.tX hH hp rfl (.map es') (by simp) (fun c hc=>g2 c hc) rfl rfl rfl (fun _=>Nat.le_refl _) (fun C=>⟨a',g1,z _ _ (fun A v h=>Rv.ext C A v h)⟩)
theorem RvM.of{w':World}{mu mu':Nat->Prop}(h:∀A v,Rv w mu π A v->Rv w' mu' π A v):∀(i:Nat) (es:List (Value×AV)) (l:List MapEntry),RvM w mu π i es l->RvM w' mu' π i es l
 |_,[],_,j=>j
 |i,(k,A)::es,l,j=>by
  obtain⟨e,q,h1,z,C,D,E⟩:=j;exact⟨e,q,h1,z,C,h _ _ D,RvM.of h (i+1) es q E⟩
theorem stays{old new:Value}(h:Instr.sameBits 10000 old new=true)(w:World):(Instr.keyThatStays old new).run P w=.ok new w:=by simp[Instr.keyThatStays,h]
theorem so(N:Inv out B w π H){t:TypeId}{m k x:AV}{Z vk I:Value}{r:ct}(hm:Rv w (aY out π H) π m Z)(hk:Rv w (aY out π H) π k vk)(hx:Rv w (aY out π H) π x I)(h:jz P H t m k x=some r):
  dx P out B w π H (do Instr.mapUpdate t Z vk I;pure .skip) r:=by
 unfold jz at h;split at h
 ·rename_i kt e b es k' hu O R;obtain⟨hH,p,a,rfl,hp,D,E⟩:=oq N hm O;obtain rfl:vk=k':=kq k vk k' hk R;split at h
  ·rename_i i A hk S;cases h;obtain⟨q,z⟩:=nG hk E S;rcases z with⟨e1,_⟩|⟨J,en,A2,e1,e2,e3,e4,e5,e6,e7⟩
   ·cases e1
   ·cases e1;obtain⟨w',rfl,T,C⟩:=vr N (es':=es.set (0+J) (vk,x)) (a':=a.modify (0+J) fun e=>{e with key:=vk,val:=I}) hH hp D (fun w' mu' j=>by
     rw[toList_modify];exact RvM.set (j _ _ hx) es a.toList 0 _ (RvM.of j 0 es _ E))
    have U:(((a[0+J]?).map (·.key)).getD vk)=en.key:=by rw[<-Array.getElem?_toList,Nat.zero_add,e3];rfl
    refine⟨.skip,undef,_,π,?_,.inr ⟨rfl,rfl⟩,T,C,trivial,fun _ _=>rfl⟩;simp only[Instr.mapUpdate,Sem.run_bind,run_underlying hu,Result.andThen_ok,Go.MapKept.run_getObj_map D,q,e2,U,stays e7];simp[Go.MapKept.run_setObj_map _ D]
  ·rename_i hk S;cases h;obtain⟨q,z⟩:=nG hk E S;rcases z with⟨_,e2⟩|⟨J,en,A2,e1,_⟩
   ·have Y:=RvM.len es a.toList 0 E;have Y:a.size=es.length:=by simpa using Y
    obtain⟨w',rfl,T,C⟩:=vr N (es':=es++[(vk,x)]) (a':=a.push {key:=vk,val:=I,born:=a.size}) hH hp D (fun w' mu' j=>by
     have:=RvM.snoc (k:=vk) (j _ _ hx) es a.toList 0 (RvM.of j 0 es _ E);rw[Nat.zero_add,<-Y]at this;simpa using this)
    refine⟨.skip,undef,_,π,?_,.inr ⟨rfl,rfl⟩,T,C,trivial,fun _ _=>rfl⟩;simp only[Instr.mapUpdate,Sem.run_bind,run_underlying hu,Result.andThen_ok,Go.MapKept.run_getObj_map D,q,e2];simp[Go.MapKept.run_setObj_map _ D]
   ·cases e1
  ·cases h
 ·cases h
theorem yY{A:AV}{w':World}{mu:Nat->Prop}{u:Value}{i:Nat}(h:Rv w' mu π A u):Rv w' mu π (.tup [A,.at (.int .i64 i)]) (.tuple #[u,goInt i]):=⟨_,rfl,_,_,rfl,h,_,_,rfl,rfl,rfl⟩
theorem yx(U:Inv out B w π H){t:TypeId}{m k:AV}{vm vk:Value}{r:ct}(hm:Rv w (aY out π H) π m vm)(hk:Rv w (aY out π H) π k vk)(h:nN P H t m k=some r):
  dx P out B w π H (do pure (.value (<-Instr.mapEntry t vm vk))) r:=by
 unfold nN at h;split at h
 ·rename_i kt e b es k' hu Y Z;obtain⟨hH,p,a,rfl,hp,J,N⟩:=oq U hm Y;obtain rfl:vk=k':=kq k vk k' hk Z;have S:=RvM.len es a.toList 0 N;have S:a.size=es.length:=by simpa using S
  split at h
  ·rename_i z i A hk hz hf;cases h;obtain⟨q,C⟩:=nG hk N hf;rcases C with⟨e1,_⟩|⟨D,E,A2,e1,e2,e3,e4,e5,e6,e7⟩
   ·cases e1
   ·cases e1;have O:a.modify (0+D) (fun e=>{e with key:=vk})=a.modify (0+D) fun e=>{e with key:=vk,val:=E.val}:=by
     apply Array.ext (by simp);intro i h1 h2;rw[Array.getElem_modify,Array.getElem_modify];split
     ·rename_i hi;have:a[i]'(by simpa using h1)=E:=by
       have:a[i]?=some E:=by rw[<-hi,<-Array.getElem?_toList,Nat.zero_add];exact e3
       exact(Array.getElem?_eq_some_iff.1 this).2
      rw[this]
     ·rfl
    obtain⟨w',rfl,T,I⟩:=vr U (es':=es.set (0+D) (vk,A)) (a':=a.modify (0+D) fun e=>{e with key:=vk,val:=E.val}) hH hp J (fun w' mu' j=>by
     rw[toList_modify];exact RvM.set (j _ _ e6) es a.toList 0 _ (RvM.of j 0 es _ N))
    have hj:a[0+D]?=some E:=by rw[<-Array.getElem?_toList,Nat.zero_add,e3]
    refine⟨.value (.tuple #[E.val,goInt ((0+D:Nat):Int)]),_,_,π,?_,.inl rfl,T,I,yY (Rv.ext T _ _ e6),fun _ _=>rfl⟩;simp only[Instr.mapEntry,Sem.run_bind,run_underlying hu,Result.andThen_ok,Go.MapKept.run_getObj_map J,q,e2,hj,Option.map_some,Option.getD_some,stays e7,O,e5];simp[Go.MapKept.run_setObj_map _ J]
  ·rename_i z hk hz hf;cases h;obtain⟨q,C⟩:=nG hk N hf;obtain⟨zv,a1,R⟩:=wC hz;rcases C with⟨_,e2⟩|⟨D,E,A2,e1,_⟩
   ·obtain⟨w',rfl,T,I⟩:=vr U (es':=es++[(vk,z)]) (a':=a.push {key:=vk,val:=zv,born:=a.size}) hH hp J (fun w' mu' j=>by
     have:=RvM.snoc (k:=vk) (R w' mu' π) es a.toList 0 (RvM.of j 0 es _ N);rw[Nat.zero_add,<-S]at this;simpa using this)
    refine⟨.value (.tuple #[zv,goInt ((es.length:Nat):Int)]),_,_,π,?_,.inl rfl,T,I,yY (R _ _ _),fun _ _=>rfl⟩;simp only[Instr.mapEntry,Sem.run_bind,run_underlying hu,Result.andThen_ok,Go.MapKept.run_getObj_map J,q,e2,a1];simp[Go.MapKept.run_setObj_map _ J,S]
   ·cases e1
  ·cases h
 ·cases h
theorem yq{k:IntKind}{n:Int}:(asInt (.int k n)).run P w=.ok n w:=by simp[asInt,asIntOf]
theorem RvM.born{mu:Nat->Prop}:∀(es:List (Value×AV)) (l:List MapEntry) (j i:Nat),RvM w mu π j es l->i<es.length->l.findIdx? (fun e=>(e.born:Int)==((j+i:Nat):Int))=some i
 |[],_,_,i,_,hi=>by simp at hi
 |(k',D)::es,_,j,i,h,hi=>by
  obtain⟨e,z,rfl,E,q,I,C⟩:=h;rw[List.findIdx?_cons];cases i with
  |zero=>simp[q]
  |succ i=>
   have:=RvM.born es z (j+1) i C (by simpa using hi);rw[show j+1+i=j+(i+1)by omega]at this;rw[this];have:((e.born:Int)==((j+(i+1):Nat):Int))=false:=by rw[q];simp;omega
   rw[this];rfl
theorem uz(S:Inv out B w π H){t:TypeId}{m s x:AV}{T vs q:Value}{r:ct}(hm:Rv w (aY out π H) π m T)(hs:Rv w (aY out π H) π s vs)(Z:Rv w (aY out π H) π x q)(h:mK H m s x=some r):
  dx P out B w π H (do Instr.entryStore t T vs q;pure .skip) r:=by
 unfold mK at h;split at h
 ·rename_i b es i C hi;obtain⟨hH,p,a,rfl,hp,D,E⟩:=oq S hm C;split at h
  ·rename_i k A U I;cases h;have U:0<=i:=by simpa using U
   obtain⟨sk,rfl⟩:=kL hs hi;obtain⟨n,rfl⟩:∃n:Nat,i=n:=⟨i.toNat,by omega⟩;rw[Int.toNat_natCast]at I ⊢;obtain⟨Y,g1,g2,g3,g4⟩:=RvM.get es a.toList 0 n k A E I;have J:n<es.length:=(List.getElem?_eq_some_iff.1 I).1;have N:=RvM.born es a.toList 0 n E J;have O:a.findIdx? (fun e=>(e.born:Int)==(n:Int))=some n:=by
    have e:a=a.toList.toArray:=rfl;rw[e,List.findIdx?_toArray];simpa using N
   have z:a.modify n (fun e=>{e with val:=q})=a.modify n fun e=>{e with key:=k,val:=q}:=by
    apply Array.ext (by simp);intro i h1 h2;rw[Array.getElem_modify,Array.getElem_modify];split
    ·rename_i hi;have:a[i]'(by simpa using h1)=Y:=by
      have:a[i]?=some Y:=by rw[<-hi,<-Array.getElem?_toList];exact g1
      exact(Array.getElem?_eq_some_iff.1 this).2
     rw[this,<-g2]
    ·rfl
   obtain⟨w',rfl,hE,R⟩:=vr S (es':=es.set n (k,x)) (a':=a.modify n fun e=>{e with key:=k,val:=q}) hH hp D (fun w' mu' j=>by
    rw[toList_modify];exact RvM.set (j _ _ Z) es a.toList 0 _ (RvM.of j 0 es _ E))
   refine⟨.skip,undef,_,π,?_,.inr ⟨rfl,rfl⟩,hE,R,trivial,fun _ _=>rfl⟩;simp only[Instr.entryStore,Sem.run_bind,Go.MapKept.run_getObj_map D,Result.andThen_ok,yq,O,z];simp[Go.MapKept.run_setObj_map _ D]
  ·cases h
 ·cases h
theorem gW(q:Inv out B w π H){n:Nat}(C:n<=H.length)(p:Option PB)(x:Blk):∀j,(∀b,(j,b)∉[(n,x)])->(upd π n p)[j]?=π[j]?:=by
 intro j z;rw[hU (by have:=q.len;omega),if_neg];rintro rfl;exact z x (by simp)
theorem wU(C:Inv out B w π H){nid:Nat}(D:nid<=H.length)(J:∀q,π[nid]?≠some (some q)){t:TypeId}{r:Option AV}{j:Option Value}{x:ct}(E:match r,j with|none,none=>True|some r,some v=>Rv w (aY out π H) π r v|_,_=>False)(h:qw P nid t r=some x):
  dx P out B w π H (do pure (.value (<-Instr.makeMap t j))) x:=by
 have key:(Instr.makeMap t j).run P w=.ok (.map (some w.heap.size)) (w.alloc (.map #[] 0))/\x=.eff (.mp nid) [(nid,.map [])]:=by
  unfold qw at h;cases r with
  |none=>
   cases j with
   |none=>cases h;exact⟨by simp[Instr.makeMap],rfl⟩
   |some _=>exact E.elim
  |some r=>
   cases j with
   |none=>exact E.elim
   |some v=>
    simp only at h E;split at h
    ·rename_i q kt e hk hu;cases h;have:=sn E hk;subst this;exact⟨by simp[Instr.makeMap,run_underlying hu,asInt,asIntOf],rfl⟩
    ·cases h
 obtain⟨z,rfl⟩:=key;have N:=qQ C (.map #[] 0) (.map []) ⟨w.heap.size,0,0,fun _=>none⟩ rfl D J;have I:=C.alloc (.map #[] 0) (.map []) ⟨w.heap.size,0,0,fun _=>none⟩ rfl D J ⟨#[],by show(w.heap.push _)[w.heap.size]?=_;simp,rfl⟩;refine⟨_,.map (some w.heap.size),_,_,by simp[z],.inl rfl,N,I,⟨_,ja C D _,rfl⟩,gW C D _ _⟩
theorem Fa{mu:Nat->Prop}(k:Value):Rv w mu π (G0 k) k:=by
 cases k<;>first|exact⟨_,rfl,gJ _⟩|exact rfl
theorem yp(j:Inv out B w π H){nid:Nat}(z:nid<=H.length)(C:∀q,π[nid]?≠some (some q)){t:TypeId}{m:AV}{J:Value}{x:ct}(hm:Rv w (aY out π H) π m J)(h:tp P H nid t m=some x):
  dx P out B w π H (do pure (.value (<-Instr.range t J))) x:=by
 unfold tp at h;split at h
 ·rename_i kt e b es hu D;cases h;obtain⟨hH,p,a,rfl,hp,N,O⟩:=oq j hm D;have R:a.size=es.length:=by have:=RvM.len es a.toList 0 O;simpa using this
  have E:b≠nid:=fun e=>C p (by rw[<-e];exact hp)
  have S:p.blk<w.heap.size:=(j.base b _ p hH hp rfl).2;have T:=qQ j (.mapIter (some p.blk) a.size #[] a.size) (.iter b es.length []) ⟨w.heap.size,0,0,fun _=>none⟩ rfl z C;have I:=j.alloc (.mapIter (some p.blk) a.size #[] a.size) (.iter b es.length []) ⟨w.heap.size,0,0,fun _=>none⟩ rfl z C ⟨rfl,p,by rw[hU (by have:=j.len;omega),if_neg E];exact hp,by show(w.heap.push _)[w.heap.size]?=_;rw[<-R];simp⟩;refine⟨_,.pointer (some ⟨w.heap.size,0,none⟩),_,_,?_,.inl rfl,T,I,⟨_,ja j z _,rfl⟩,gW j z _ _⟩;simp only[Instr.range,Sem.run_bind,run_underlying hu,Result.andThen_ok,Go.MapKept.run_getObj_map N,Sem.run_pure];rfl
 ·cases h
theorem va(hI:Inv out B w π H){x:AV}{v:Value}{r:ct}(hx:Rv w (aY out π H) π x v)(h:nZ H x=some r):dx P out B w π H (do pure (.value (<-Instr.entry v))) r:=by
 unfold nZ at h;split at h
 ·rename_i m n seen z;unfold uy at z;split at z
  ·rename_i j;split at z
   ·rename_i m' n' N O;cases z;obtain⟨p,hp,rfl⟩:=hx;obtain⟨ho,q,hq,hh⟩:=hI.ok j _ p O hp;split at h
    ·rename_i es R;obtain⟨a,ha,S⟩:=hI.ok m _ q R hq;have hl:a.size=es.length:=by have:=RvM.len es a.toList 0 S;simpa using this
     split at h
     ·rename_i i T C;split at h
      ·rename_i k A hi;cases h;have T:es.length=n:=dcT T;obtain⟨J,g1,g2,g3,g4⟩:=RvM.get es a.toList 0 i k A S hi;have D:seen.toArray.back?=some i:=by rw[<-C];simp[Array.back?,List.getLast?_eq_getElem?]
       have E:a.find? (fun e=>e.born==i)=some J:=by
        have U:i<es.length:=(List.getElem?_eq_some_iff.1 hi).1;have Y:=RvM.born es a.toList 0 i S U;rw[<-Array.find?_toList];have Z:a.toList.findIdx? (fun e=>e.born==i)=some i:=by
         rw[<-Y];congr 1;funext e;rw[Nat.zero_add,Bool.eq_iff_iff,beq_iff_eq,beq_iff_eq];omega
        rw[List.find?_eq_some_iff_getElem];have h3:=List.findIdx?_eq_some_iff_getElem.1 Z;obtain⟨h4,h5,h6⟩:=h3;have he:a.toList[i]=J:=(List.getElem?_eq_some_iff.1 g1).2;refine⟨by rw[<-he];exact h5,i,h4,he,fun j O=>by simpa using h6 j O⟩
       have I:(Instr.entry (.pointer (some ⟨p.blk,p.off+0,none⟩))).run P w=.ok (.tuple #[J.key,J.val]) w:=by
        rw[Nat.add_zero,ho];simp only[Instr.entry,getObj,Sem.run_bind,Sem.run,hh,ha,Result.andThen,D,hl,T,bne_self_eq_false,Bool.false_eq_true,if_false,E];rfl
       exact dx.value I ⟨_,rfl,_,_,rfl,by rw[g2];exact Fa k,_,_,rfl,g4,rfl⟩
      ·cases h
     ·cases h
    ·cases h
   ·cases z
  ·cases z
 ·cases h
end
end Go.Eng


namespace Go.Eng
open Go Go.RowKit
variable[Dr]
section
variable{P:Program}{out:Nat->Prop}{B:Nat->Prop}{w:World}{π:List (Option PB)}{H:List Blk}
theorem Inv.same{w':World}(j:Inv out B w π H)(q:w'.heap=w.heap)(C:w'.os=w.os)(D:w'.tape=w.tape)(hu:w'.output=w.output)(E:Dr.d=true->w.drawn<=w'.drawn):
  Ext B w w' (aY out π H) (aY out π H) π π/\Inv out B w' π H:=by
 have z:Ext B w w' (aY out π H) (aY out π H) π π:=⟨fun _ _=>by rw[q],by rw[q];exact Nat.le_refl _,fun b _ h=>⟨by rw[q],h⟩,fun _ _ h=>h,C,D,hu,E⟩;exact⟨z,j.len,by rw[q];exact j.bound,j.out_lt,by rw[q];exact j.baseO,fun i x p h1 I=>fD.ext z (fun _ _=>by rw[q]) (j.ok i x p h1 I),j.sepO⟩
theorem Ab(C:Inv out B w π H){nid:Nat}(D:nid<=H.length)(J:∀q,π[nid]?≠some (some q)){t:TypeId}{z:List AV}(N:mh P t=some z)(h1:z.all gU=true):
  dx P out B w π H (do pure (.value (<-Instr.alloc t true (.tuple #[])))) (.eff (.hp nid 0) [(nid,.own z)]):=by
 obtain⟨I,_,hi,O,j,rfl⟩:=qB N w;obtain⟨R,E⟩:=od C D J (I.cells.toList.map .at) I.cells t (gJ _) (all_zero h1);refine⟨_,.pointer (some ⟨w.heap.size,0,none⟩),_,_,by simp[Instr.alloc,j,newVar,newRow],.inl rfl,R,E,⟨_,ja C D _,rfl⟩,gW C D _ _⟩
theorem Dh(j:Inv out B w π H){nid:Nat}(z:nid<=H.length)(D:∀q,π[nid]?≠some (some q)){t:TypeId}{x:AV}{v:Value}(E:Rv w (aY out π H) π x v)(h1:(cellsOf x).all gU=true):
  dx P out B w π H (do pure (.value (<-Instr.box t v))) (.eff (.hp nid 0) [(nid,.own (cellsOf x))]):=by
 obtain⟨g1,g2⟩:=nP E h1;obtain⟨I,C⟩:=od j z D (cellsOf x) v.cells t g1 g2;exact⟨_,.pointer (some ⟨w.heap.size,0,none⟩),_,_,by simp[Instr.box,newVar,newRow],.inl rfl,I,C,⟨_,ja j z _,rfl⟩,gW j z _ _⟩
def F8(w:World)(mu:Nat->Prop)(π:List (Option PB))(ρ:Operand->AV)(ρc:Operand->Value)(l:List (Nat×Operand)):Prop:=
 RvL w mu π ((l.map fun p=>(p.1,ρ p.2)).map (·.2)) ((l.map fun p=>(p.1,ρc p.2)).map (·.2))
theorem tm{ρ:Operand->AV}{ρc:Operand->Value}{mu:Nat->Prop}(hρ:∀x,Rv w mu π (ρ x) (ρc x)):∀l:List (Nat×Operand),F8 w mu π ρ ρc l
 |[]=>rfl
 |(_,x)::l=>⟨_,_,rfl,hρ x,tm hρ l⟩
theorem uZ{ρ:Operand->AV}{ρc:Operand->Value}{mu:Nat->Prop}(hρ:∀x,Rv w mu π (ρ x) (ρc x)):∀l:List Operand,RvL w mu π (l.map ρ) (l.map ρc)
 |[]=>rfl
 |x::l=>⟨_,_,rfl,hρ x,uZ hρ l⟩
theorem sN{t:TypeId}{z:List AV}(h:mh P t=some z):∃j:Value,(∀w,(zeroValue t).run P w=.ok j w)/\z=j.cells.toList.map .at:=by
 unfold mh at h;split at h
 ·rename_i i hi;split at h
  ·rename_i j q;cases h;exact⟨j,fun w=>by simp[zeroValue,typeInfo,hi,q],rfl⟩
  ·cases h
 ·cases h
theorem wu(S:Inv out B w π H){nid:Nat}(j:nid<=H.length)(T:∀q,π[nid]?≠some (some q)){ρ:Operand->AV}{ρc:Operand->Value}(hρ:∀x,Rv w (aY out π H) π (ρ x) (ρc x)){t e:TypeId}{len n:Nat}{z cs:List AV}{parts:Array (Nat×Operand)}
  (hu:P.underlying t=some (.slice e)) (hn:fW P e=some n) (hz:mh P e=some z) (h1:len*n<=16777216) (h2:z.length=n) (h3:z.all gU=true)
  (hf:tH (fun i=>some (i*n,n)) (eu z len) (parts.toList.map fun p=>(p.1,ρ p.2))=some cs):
  dx P out B w π H (do pure (.value (<-Instr.buildSlice t len (parts.map fun(i,x)=>(i,ρc x))))) (.eff (.hs nid 0 len n) [(nid,.own cs)]):=by
 obtain⟨E,U,rfl⟩:=sN hz;have Y:E.cells.size=n:=by simpa using h2
 have a1:=all_zero h3;have C:∀z0:Array Value,(if len*n=0 then z0=#[]else z0=E.cells)->((Array.range (len*n)).map (z0[·%z0.size]!)).toList=(List.replicate len E.cells.toList).flatten:=by
  intro z0 O;by_cases I:len*n=0
  ·rw[if_pos I]at O;subst O;rw[I];rcases Nat.mul_eq_zero.1 I with e0|e0
   ·simp[e0]
   ·have:E.cells=#[]:=by rw[<-Array.size_eq_zero_iff];omega
    simp[this]
  ·rw[if_neg I]at O;subst O;have Z:0<E.cells.size:=by
    rw[Y];exact Nat.pos_of_ne_zero fun e0=>I (by rw[e0];simp)
   have:=mS E.cells len Z;rw[Y]at this;simpa [madeCells]using this
 have N:(parts.map fun p:Nat×Operand=>(p.1,ρc p.2)).toList=parts.toList.map fun p=>(p.1,ρc p.2):=by simp
 have fin:∀z0:Array Value,((Array.range (len*n)).map (z0[·%z0.size]!)).toList=(List.replicate len E.cells.toList).flatten->
   ∃J,Instr.fill (fun i=>some (i*n,n)) ((Array.range (len*n)).map (z0[·%z0.size]!)) (parts.map fun p:Nat×Operand=>(p.1,ρc p.2)).toList=some J/\RvL w (aY out π H) π cs J.toList/\(∀v∈J.toList,v.oneCell'=true)/\J.size=len*n:=by
  intro z0 O;obtain⟨J,r1,r2,r3,r4⟩:=pX (w:=w) (π:=π) (mu:=aY out π H) (place:=fun i=>some (i*n,n)) (parts.toList.map fun p=>(p.1,ρ p.2)) (parts.toList.map fun p=>(p.1,ρc p.2)) (eu (E.cells.toList.map .at) len)
   ((Array.range (len*n)).map (z0[·%z0.size]!)) cs (by simp) (tm hρ _) (by rw[O];exact sW _ _) (by rw[O];exact lY a1 _) hf
  exact⟨J,by rw[N];exact r1,r2,r4,by rw[r3];simp⟩
 have hle:¬16777216<len*n:=by omega
 by_cases I:len*n=0
 ·obtain⟨J,r1,r2,r3,r4⟩:=fin #[] (C #[] (by rw[if_pos I]));obtain⟨hE,R⟩:=od S j T cs J e r2 r3;refine⟨_,.slice (some ⟨w.heap.size,0,none⟩) len len,_,_,?_,.inl rfl,hE,R,.inr ⟨_,_,_,ja S j _,rfl,Nat.le_refl _,rfl,fun _=>⟨rfl,?_⟩⟩,gW S j _ _⟩
  ·have D:¬len*n>2^24:=by simpa using hle
   simp only[Instr.buildSlice,Sem.run_bind,run_underlying hu,Result.andThen_ok,cE hn,Sem.run_ite,if_neg D,if_pos I,Sem.run_pure];rw[r1];rfl
  ·simp[r4]
 ·obtain⟨J,r1,r2,r3,r4⟩:=fin E.cells (C E.cells (by rw[if_neg I]));obtain⟨hE,R⟩:=od S j T cs J e r2 r3;refine⟨_,.slice (some ⟨w.heap.size,0,none⟩) len len,_,_,?_,.inl rfl,hE,R,.inr ⟨_,_,_,ja S j _,rfl,Nat.le_refl _,rfl,fun _=>⟨rfl,?_⟩⟩,gW S j _ _⟩
  ·have D:¬len*n>2^24:=by simpa using hle
   simp only[Instr.buildSlice,Sem.run_bind,run_underlying hu,Result.andThen_ok,cE hn,Sem.run_ite,if_neg D,if_neg I,U,Sem.run_pure];rw[r1];rfl
  ·simp[r4]
theorem uB{mu:Nat->Prop}{ρ:Operand->AV}{ρc:Operand->Value}(hρ:∀x,Rv w mu π (ρ x) (ρc x)){t:TypeId}{C:Array Field}{z cs:List AV}{pl:List (Nat×Nat)}{parts:Array (Nat×Operand)}
  (hu:P.underlying t=some (.struct C)) (J:mh P t=some z) (hp:tf P C.toList=some pl) (h1:z.all gU=true) (N:tH (fun i=>pl[i]?) z (parts.toList.map fun p=>(p.1,ρ p.2))=some cs):
  ∃u,(Instr.build t (parts.map fun(i,x)=>(i,ρc x))).run P w=.ok u w/\Rv w mu π (.agg cs) u:=by
 obtain⟨E,q,rfl⟩:=sN J;obtain⟨I,r1,r2,r3,r4⟩:=pX (w:=w) (π:=π) (mu:=mu) (place:=fun i=>pl[i]?) (parts.toList.map fun p:Nat×Operand=>(p.1,ρ p.2)) (parts.toList.map fun p:Nat×Operand=>(p.1,ρc p.2)) (E.cells.toList.map .at) E.cells cs (by simp) (tm hρ parts.toList) (gJ _) (all_zero h1) N;have j:(parts.map fun p:Nat×Operand=>(p.1,ρc p.2)).toList=parts.toList.map fun p=>(p.1,ρc p.2):=by simp
 refine⟨.agg I,?_,I,rfl,r2⟩;have D:(C.mapM (m:=Sem) fun f=>do pure (f.offset,<-sizeOf f.type)).run P w=.ok pl.toArray w:=by
  rw[Array.mapM_eq_mapM_toList];have:=tI (P:=P) w C.toList pl hp;simp only[Sem.run_map,this,Result.andThen_ok]
 simp only[Instr.build,Sem.run_bind,q,Result.andThen_ok,run_underlying hu,D,j];have e:(fun x:Nat=>pl.toArray[x]?)=(fun i:Nat=>pl[i]?):=by funext i;simp
 simp only[e,r1];rfl
theorem uL{mu:Nat->Prop}{ρ:Operand->AV}{ρc:Operand->Value}(hρ:∀x,Rv w mu π (ρ x) (ρc x)){t e:TypeId}{len n:Nat}{z cs:List AV}{parts:Array (Nat×Operand)}
  (hu:P.underlying t=some (.array len e)) (E:mh P t=some z) (I:fW P e=some n) (h1:z.all gU=true) (J:tH (fun i=>some (i*n,n)) z (parts.toList.map fun p=>(p.1,ρ p.2))=some cs):
  ∃u,(Instr.build t (parts.map fun(i,x)=>(i,ρc x))).run P w=.ok u w/\Rv w mu π (.agg cs) u:=by
 obtain⟨C,q,rfl⟩:=sN E;obtain⟨D,r1,r2,r3,r4⟩:=pX (w:=w) (π:=π) (mu:=mu) (place:=fun i=>some (i*n,n)) (parts.toList.map fun p:Nat×Operand=>(p.1,ρ p.2)) (parts.toList.map fun p:Nat×Operand=>(p.1,ρc p.2)) (C.cells.toList.map .at) C.cells cs (by simp) (tm hρ parts.toList) (gJ _) (all_zero h1) J;have j:(parts.map fun p:Nat×Operand=>(p.1,ρc p.2)).toList=parts.toList.map fun p=>(p.1,ρc p.2):=by simp
 refine⟨.agg D,?_,D,rfl,r2⟩;simp only[Instr.build,Sem.run_bind,q,Result.andThen_ok,run_underlying hu,cE I,j];rw[r1];rfl
theorem wS(E:Inv out B w π H){nid:Nat}(j:nid<=H.length)(I:∀q,π[nid]?≠some (some q)){t e:TypeId}{Z kc:IntKind}{l c:Int}{n by_:Nat}{z:List AV}(hu:P.underlying t=some (.slice e))(hn:fW P e=some n)(hb:pF P e=some by_)(hz:mh P e=some z)
  (h0:0<=l) (J:l<=c) (N:(by_:Int)*c<=281474976710656) (O:c<=9223372036854775807) (R:z.length=n) (a6:0<n) (h3:z.all gU=true):
  dx P out B w π H (do pure (.value (<-Instr.makeSlice t (.int Z l) (.int kc c)))) (.eff (.hs nid 0 l.toNat n) [(nid,.own (eu z c.toNat))]):=by
 obtain⟨C,i,hi,S,a1,rfl⟩:=qB hz w;have D:i.size=n:=by simpa [fW,hi]using hn
 have T:i.bytes=by_:=by simpa [pF,hi]using hb
 have U:C.cells.size=n:=by simpa using R
 have hm:=run_make (P:=P) w t e i C hu hi S Z kc l c h0 J (by rw[T];exact N) O;have he:(madeCells C.cells (c.toNat*i.size)).toList=(List.replicate c.toNat C.cells.toList).flatten:=by
  rw[D,<-U];exact mS C.cells c.toNat (by omega)
 obtain⟨hE,Y⟩:=od E j I (eu (C.cells.toList.map .at) c.toNat) (madeCells C.cells (c.toNat*i.size)) e (by rw[he];exact sW _ _) (by rw[he];exact lY (all_zero h3) _);exact⟨_,.slice (some ⟨w.heap.size,0,none⟩) l.toNat c.toNat,_,_,by simp[hm],.inl rfl,hE,Y,.inr ⟨_,_,_,ja E j _,rfl,by omega,rfl,fun _=>⟨rfl,by simp[size_madeCells,D]⟩⟩,gW E j _ _⟩
end
section
variable{P:Program}{out:Nat->Prop}{B:Nat->Prop}{w:World}{π:List (Option PB)}{H:List Blk}
theorem nE(R:Inv out B w π H){n:Nat}{x:AV}{v:Value}{cs:List AV}{m:Nat}(E:Rv w (aY out π H) π x v)(h:kS H n x=some (cs,m)):
  ∃a cap,v=.slice a m cap/\(a=none->m=0)/\m<=cap/\∃vs:List Value,vs.length=m*n/\RvL w (aY out π H) π cs vs/\(∀u∈vs,u.oneCell'=true)/\(∀b,a=some b->∀j u,vs[j]?=some u->w.cell? (b.add j)=some u):=by
 unfold kS at h;split at h
 ·cases h;cases E;exact⟨none,0,rfl,fun _=>rfl,Nat.le_refl _,[],by simp,rfl,by simp,fun b q=>by cases q⟩
 ·rename_i nl c len;split at h
  ·rename_i N;simp only[decide_eq_true_eq]at N;cases h;rcases E with⟨_,rfl,rfl,rfl⟩|⟨b,o,cap,rfl,I,O,S⟩|⟨rfl,rfl,a,cap,rfl⟩
   rotate_left 2
   ·exact⟨some a,cap,rfl,fun _=>rfl,Nat.zero_le _,[],by simp,rfl,by simp,fun b q j u D=>by simp at D⟩
   ·exact⟨none,0,rfl,fun _=>rfl,Nat.le_refl _,[],by simp,rfl,by simp,fun b q=>by cases q⟩
   ·obtain⟨vs,g1,g2,g3,g4⟩:=qM S.lift (Nat.le_refl _);rw[List.take_length]at g2;exact⟨_,cap,rfl,(fun e=>by cases e),I,vs,by rw[g1];exact N,g2,g3,fun U J=>by cases J;exact g4⟩
  ·cases h
 ·rename_i i off len es;rcases E with⟨rfl,rfl⟩|⟨p,a,cap,h1,rfl,I,T,O⟩
  ·have:cs=[]/\m=0:=by
    split at h
    ·split at h
     ·cases h;simp
     ·cases h
    ·split at h
     ·cases h;simp
     ·cases h
    ·cases h
   obtain⟨rfl,rfl⟩:=this;exact⟨none,0,rfl,fun _=>rfl,Nat.le_refl _,[],by simp,rfl,by simp,fun b q=>by cases q⟩
  have key:∀c:List AV,(H[i]?=some (.own c)\/H[i]?=some (.fix c))->off+len*n<=c.length->cs=(c.drop off).take (len*n)->m=len->
    ∃a' z,Value.slice (some a) len cap=.slice a' m z/\(a'=none->m=0)/\m<=z/\∃vs:List Value,vs.length=m*n/\RvL w (aY out π H) π cs vs/\(∀u∈vs,u.oneCell'=true)/\(∀b,a'=some b->∀j u,vs[j]?=some u->w.cell? (b.add j)=some u):=by
   intro c hc hle e1 e2;subst e1;subst e2;obtain⟨vs,g1,g2,g3,g4⟩:=qM (n:=m*n) (RvC.drop off c _ _ (ku R hc h1)) (by simp;omega);refine⟨_,cap,rfl,(fun e=>by cases e),I,vs,g1,g2,g3,fun b q=>?_⟩;cases q;intro j u D;by_cases C:0<cap
   ·rw[(O C).1];exact g4 j u D
   ·have : vs.length = 0 := by rw[g1];have:m=0:=by omega
                               simp[this]
    rw[List.length_eq_zero_iff]at this;subst this;simp at D
  split at h
  ·rename_i c hc;split at h
   ·rename_i hle;cases h;exact key c (.inl hc) (by simpa using hle) rfl rfl
   ·cases h
  ·rename_i c hc;split at h
   ·rename_i hle;cases h;exact key c (.inr hc) (by simpa using hle) rfl rfl
   ·cases h
  ·cases h
 ·cases h
theorem fr{n m cap:Nat}{a:Option Addr}{vs:List Value}(w:World)(q:vs.length=m*n)(z:a=none->m=0)(h:∀b,a=some b->∀j u,vs[j]?=some u->w.cell? (b.add j)=some u):
  (Builtin.firstCells n m (.slice a m cap)).run P w=.ok vs.toArray w:=by
 cases a with
 |none=>
  have:vs=[]:=by rw[<-List.length_eq_zero_iff,q,z rfl];simp
  subst this;rfl
 |some b=>exact run_firstCells_some w n m b m cap vs q (h b rfl)
theorem Dd(hI:Inv out B w π H){nid:Nat}(I:nid<=H.length)(b4:∀q,π[nid]?≠some (some q)){t t' e e' ty:TypeId}{n by_:Nat}{z:List AV}{i' off len C es:Nat}{x:AV}{vs vx:Value}{r:ct}(ht:P.underlying t=some (.slice e))(a6:P.underlying t'=some (.slice e'))
  (hn:fW P e=some n) (hb:pF P e=some by_) (hz:mh P e=some z) (b5:z.length=n) (hs:Rv w (aY out π H) π (.hc i' off len C es) vs) (hx:Rv w (aY out π H) π x vx) (h:kE H nid n by_ (.hc i' off len C es) x=some r):
  dx P out B w π H (do pure (.value (<-Builtin.append_ #[t,t'] ty #[vs,vx]))) r:=by
 obtain⟨zv,i,hi,b6,e4,rfl⟩:=qB hz w;have b7:i.size=n:=by simpa [fW,hi]using hn
 have b8:i.bytes=by_:=by simpa [pF,hi]using hb
 unfold kE at h;split at h
 ·cases h
 ·rename_i new m hc;obtain⟨a,cap,rfl,h0,h1,us,J,N,O,R⟩:=nE hI hx hc;have b9:=fr (P:=P) (cap:=cap) w J h0 R;have c0:=fr (P:=P) (cap:=cap) w.drew J h0 (by simpa using R);obtain⟨m,rfl⟩:∃m',m=m'+1:=by
   cases m with
   |zero=>simp at h;split at h<;>cases h
   |succ m=>exact⟨m,rfl⟩
  change us.length=(m+1)*n at J;simp only at h;split at h
  ·rename_i cs hH;split at h
   ·rename_i S;simp only[Bool.and_eq_true,decide_eq_true_eq]at S;obtain⟨⟨⟨⟨⟨⟨rfl,k0⟩,k1⟩,rfl⟩,k2⟩,k3⟩,k4⟩:=S;simp only[Rv,Nat.add_zero]at hs;obtain⟨p,ad,Y,rfl,h2,e6,h3⟩:=hs;obtain⟨⟨c,te,E,c3⟩,hC⟩:=hI.ok i' _ p hH Y;have a7:zv.cells.size=es:=by simpa using b5
    obtain⟨os,o1,o2,o3,o4⟩:=qM (n:=len*es) hC k2;split at h
    ·
     rename_i D;have D:len+(m+1)<=C:=by simpa using D
     cases h;obtain⟨rfl,h6⟩:=h3 (by omega);have hK:p.off+len*es+us.length<=c.size:=by
      rw[J,c3];have:len*es+(m+1)*es<=C*es:=by rw[<-Nat.add_mul];exact Nat.mul_le_mul_right _ D
      omega
     have a8:=run_storeCells_at P p.blk (p.off+len*es) te us 0 c w E (by simpa using hK) O;simp only[Nat.add_zero]at a8;have Z:(Builtin.append_ #[t,t'] ty #[.slice (some ⟨p.blk,p.off,none⟩) len C,.slice a (m+1) cap]).run P w=
       .ok (.slice (some ⟨p.blk,p.off,none⟩) (len+(m+1)) C) (w.setRow p.blk (c.toList.take (p.off+len*es)++us++c.toList.drop (p.off+len*es+us.length)).toArray):=by
      simp[Builtin.append_,run_underlying ht,run_underlying a6,cE hn,Builtin.lenOf,D,b9,fV,a8]
     obtain⟨hE,T⟩:=Inv.tX hI hH Y rfl (.own (cs.take (len*es)++new)) (w':=w.setRow p.blk (c.toList.take (p.off+len*es)++us++c.toList.drop (p.off+len*es+us.length)).toArray)
      (by simp) (fun b hb=>by simp only[World.setRow,Array.getElem?_modify];rw[if_neg (by omega)]) rfl rfl rfl (fun _=>Nat.le_refl _) (fun hE=>by
       refine⟨⟨_,te,setRow_heap w _ c _ te _ E,?_⟩,?_⟩
       ·simp;omega
       ·refine jO _ (os++us) _ _ (RvL.append _ _ _ _ (RvL.ext hE _ _ o2) (RvL.ext hE _ _ N)) ?_ ?_
        ·intro u hu;rcases List.mem_append.1 hu with hu|hu
         ·exact o3 u hu
         ·exact O u hu
        ·intro j u U;simp only[World.cell?,setRow_heap w _ c _ te _ E];simp only[Option.isSome_none,Bool.false_eq_true,if_false,List.getElem?_toArray];have a1:(c.toList.take (p.off+len*es)).length=p.off+len*es:=by simp;omega
         rw[List.append_assoc];by_cases c4:j<os.length
         ·rw[List.getElem?_append_left c4]at U;rw[List.getElem?_append_left (by rw[a1];omega),List.getElem?_take,if_pos (by omega)];have:=o4 j u U;rw[fV]at this;simp only[World.cell?,E]at this;simpa using this
         ·rw[List.getElem?_append_right (by omega)]at U;rw[List.getElem?_append_right (by rw[a1];omega),a1,show p.off+j-(p.off+len*es)=j-os.length by omega];rw[List.getElem?_append_left (aW U)];exact U)
     have b0:bj H [(i',.own (cs.take (len*es)++new))]=H.set i' (.own (cs.take (len*es)++new)):=by simp[bj,upd,aW hH]
     rw[<-b0]at hE T;exact⟨_,.slice (some ⟨p.blk,p.off,none⟩) (len+(m+1)) C,_,_,by simp only[Sem.run_bind,Z,Result.andThen_ok];rfl,.inl rfl,hE,T,.inr ⟨p,_,_,Y,rfl,D,rfl,fun _=>⟨rfl,h6⟩⟩,fun j _=>rfl⟩
    ·
     rename_i D;have D:¬len+(m+1)<=C:=by simpa using D
     cases h;have e5:=growslice_fits (need:=len+(m+1)) (old:=C) (bytes:=by_) (by omega) k3;have g1:¬9223372036854775807<((len:Int)+((m:Int)+1)):=by omega
     have g2:¬281474976710656<Builtin.nextslicecap (len+(m+1)) C*by_:=by omega
     obtain⟨b1,c5⟩:=hI.same (w':=w.drew) rfl rfl rfl rfl (fun _=>Nat.le_succ _);have hlen:=RvL.length _ _ N;have c6:=fr (P:=P) (cap:=C) (a:=some ad) w.drew o1 (fun e=>by cases e) (fun b' c7 j u U=>by
       cases c7;by_cases b2:0<C
       ·rw[(h3 b2).1];simpa using o4 j u U
       ·have h0:len=0:=by omega
        have:os=[]:=by rw[<-List.length_eq_zero_iff,o1,h0,Nat.zero_mul]
        subst this;simp at U)
     have c8:=RvL.length _ _ o2;have b3:(os.toArray++us.toArray++Builtin.zeroCells zv.cells (grownCap w (len+(m+1)) C e-(len+(m+1)))).toList.take (cs.take (len*es)++new).length=os++us:=by
      simp only[Array.toList_append,List.length_append];rw[<-c8,<-hlen,<-List.length_append,List.take_left]
     obtain⟨hE,T⟩:=tb c5 I b4 (cs.take (len*es)++new) (os.toArray++us.toArray++Builtin.zeroCells zv.cells (grownCap w (len+(m+1)) C e-(len+(m+1)))) e
      (by rw[b3];exact RvL.ext b1 _ _ (RvL.append _ _ _ _ o2 N)) (by
       rw[b3];intro u hu;rcases List.mem_append.1 hu with hu|hu
       ·exact o3 u hu
       ·exact O u hu)
     have c9:len+(m+1)<=grownCap w (len+(m+1)) C e:=by simp[grownCap,Question.cut]
     have e0:(grownCap w (len+(m+1)) C e-(len+(m+1)))*es+(len*es+(m+1)*es)=grownCap w (len+(m+1)) C e*es:=by
      rw[<-Nat.add_mul,<-Nat.add_mul];congr 1;omega
     refine⟨_,.slice (some ⟨w.heap.size,0,none⟩) (len+(m+1)) (grownCap w (len+(m+1)) C e),_,_,?_,.inl rfl,b1.trans hE,T,.inr ⟨_,_,_,ja hI I _,rfl,c9,rfl,fun _=>⟨rfl,?_⟩⟩,gW hI I _ _⟩
     ·simp[Builtin.append_,run_underlying ht,run_underlying a6,sizeOf,typeInfo,zeroValue,hi,b6,Builtin.lenOf,b7,b8,g1,g2,D,Question.forced,c6,c0,newRow,grownCap];congr 2;apply Array.ext';simp[List.append_assoc]
     ·simp only[Array.size_append,List.size_toArray,o1,J,size_zeroCells,a7];omega
   ·cases h
  ·cases h
theorem zM(S:Inv out B w π H){nid:Nat}(D:nid<=H.length)(b0:∀q,π[nid]?≠some (some q)){t t' e e' ty:TypeId}{n by_:Nat}{z:List AV}{s x:AV}{vs vx:Value}{r:ct}(ht:P.underlying t=some (.slice e))(b3:P.underlying t'=some (.slice e'))
  (hn:fW P e=some n) (Z:pF P e=some by_) (hz:mh P e=some z) (c5:z.length=n) (hs:Rv w (aY out π H) π s vs) (hx:Rv w (aY out π H) π x vx) (h:kE H nid n by_ s x=some r):
  dx P out B w π H (do pure (.value (<-Builtin.append_ #[t,t'] ty #[vs,vx]))) r:=by
 by_cases hq:∃i off len cap es,s=.hc i off len cap es
 ·obtain⟨_,_,_,_,_,rfl⟩:=hq;exact Dd S D b0 ht b3 hn Z hz c5 hs hx h
 obtain⟨zv,i,hi,c6,l1,rfl⟩:=qB hz w;have c7:i.size=n:=by simpa [fW,hi]using hn
 have c8:i.bytes=by_:=by simpa [pF,hi]using Z
 unfold kE at h;split at h
 ·cases h
 ·rename_i new m hc;obtain⟨a,cap,rfl,h0,h1,us,b6,T,a6,c0⟩:=nE S hx hc;have c9:=fr (P:=P) (cap:=cap) w b6 h0 c0;have c4:=fr (P:=P) (cap:=cap) w.drew b6 h0 (by simpa using c0);have nothing:m=0->us=[]/\new=[]:=by
   intro hm;have j4:us=[]:=by rw[<-List.length_eq_zero_iff,b6,hm];simp
   subst j4;have:=RvL.length _ _ T;exact⟨rfl,by rw[<-List.length_eq_zero_iff];simpa using this.symm⟩
  have fin:m=0->∀(b:Option Addr) (l c:Nat),l<=c->(Builtin.append_ #[t,t'] ty #[.slice b l c,.slice a m cap]).run P w=.ok (.slice b l c) w:=by
   intro hm b l c j5;obtain⟨rfl,_⟩:=nothing hm;subst hm;cases b with
   |none=>simp[Builtin.append_,run_underlying ht,run_underlying b3,cE hn,Builtin.lenOf,j5,c9]
   |some b=>simp[Builtin.append_,run_underlying ht,run_underlying b3,cE hn,Builtin.lenOf,j5,c9,storeCells]
  by_cases e4:m=0
  ·
   obtain⟨l3,h5⟩:=nothing e4;have b5:=fin e4;clear c9 c4 nothing fin b6 T a6 c0;split at h
   ·split at h
    ·cases h;cases hs;obtain⟨R,I⟩:=S.wX D b0 (.own new);refine⟨_,.slice none 0 0,w,upd π nid none,by simp only[Sem.run_bind,b5 none 0 0 (Nat.le_refl _),Result.andThen_ok];rfl,.inl rfl,R,I,.inl ⟨e4,rfl⟩,gW S D _ _⟩
    ·cases h
   ·split at h
    ·cases h;have h6:=hs;rcases hs with⟨rfl,rfl,rfl,rfl⟩|⟨b,o,c,rfl,g2,_⟩|⟨rfl,rfl,a,c,rfl⟩
     ·exact dx.value (b5 _ _ _ (Nat.le_refl _)) h6
     ·exact dx.value (b5 _ _ _ g2) h6
     ·exact dx.value (b5 _ _ _ (Nat.zero_le _)) h6
    ·cases h
   ·rename_i i' off len es;split at h
    ·rename_i cs hH;split at h
     ·rename_i E;simp only[Bool.and_eq_true,decide_eq_true_eq]at E;obtain⟨⟨⟨⟨rfl,k0⟩,k1⟩,k2⟩,k3⟩:=E;cases h;subst e4;subst h5;rcases hs with⟨rfl,rfl⟩|⟨p,b,C,b1,rfl,h2,h7,h3⟩
      ·obtain⟨a1,b4⟩:=S.kill i' (w':=w) rfl rfl rfl rfl (fun _=>Nat.le_refl _);obtain⟨R,I⟩:=b4.wX (by simpa using D) b0 (.own ((cs.drop off).take (0*es)++[]));have O:bj H [(i',.dead),(nid,.own ((cs.drop off).take (0*es)++[]))]=upd (H.set i' .dead) nid (.own ((cs.drop off).take (0*es)++[])):=by simp[bj,upd,aW hH]
       rw[<-O]at R I;exact⟨_,.slice none 0 0,w,upd π nid none,by simp only[Sem.run_bind,b5 none 0 0 (Nat.le_refl _),Result.andThen_ok];rfl,.inl rfl,a1.trans R,I,.inl ⟨rfl,rfl⟩,fun j N=>gW S D none (.own ((cs.drop off).take (0*es)++[])) j (fun b Z=>N b (by simp at Z ⊢;exact .inr Z))⟩
      ·obtain⟨⟨c,te,J,e8⟩,hC⟩:=S.ok i' _ p hH b1;obtain⟨R,I⟩:=S.grow hH b1 rfl (.own ((cs.drop off).take (len*es)++[])) ⟨p.blk,p.off+off,p.size,fun _=>none⟩ rfl D b0 (w':=w) rfl (fun _ _=>rfl) rfl rfl rfl (fun _=>Nat.le_refl _) (fun R=>by
        refine⟨⟨c,te,J,e8⟩,?_⟩;have k6:=RvC.ext R ((cs.drop off).take (len*es)) _ _ rfl (RvC.take (len*es) _ _ _ (RvC.drop off cs _ _ hC));simpa using k6)
       have O:bj H [(i',.dead),(nid,.own ((cs.drop off).take (len*es)++[]))]=upd (H.set i' .dead) nid (.own ((cs.drop off).take (len*es)++[])):=by simp[bj,upd,aW hH]
       rw[<-O]at R I;refine⟨_,.slice (some b) len C,w,_,by simp only[Sem.run_bind,b5 (some b) len C h2,Result.andThen_ok];rfl,.inl rfl,R,I,.inr ⟨⟨p.blk,p.off+off,p.size,fun _=>none⟩,b,C,ja S D _,rfl,by omega,h7,fun k7=>?_⟩,fun j N=>gW S D _ (.own ((cs.drop off).take (len*es)++[])) j (fun b Z=>N b (by simp at Z ⊢;exact .inr Z))⟩;obtain⟨e1,e2⟩:=h3 k7;exact⟨by rw[e1,Nat.add_zero],by simpa using e2⟩
     ·cases h
    ·split at h
     ·rename_i E;simp only[Bool.and_eq_true,decide_eq_true_eq]at E;omega
     ·cases h
    ·cases h
   ·exact(hq ⟨_,_,_,_,_,rfl⟩).elim
   ·cases h
  obtain⟨m,rfl⟩:∃m',m=m'+1:=⟨m-1,by omega⟩;clear fin nothing e4;change us.length=(m+1)*n at b6;split at h
  ·
   split at h
   ·rename_i E;simp only[Bool.and_eq_true,decide_eq_true_eq]at E;obtain⟨⟨k1,k2⟩,k3⟩:=E;cases h;cases hs;have a7:=growslice_fits (need:=m+1) (old:=0) (bytes:=by_) (by omega) k1;have g1:¬9223372036854775807<((m:Int)+1):=by omega
    have g2:¬281474976710656<Builtin.nextslicecap (m+1) 0*by_:=by omega
    obtain⟨a1,b4⟩:=S.same (w':=w.drew) rfl rfl rfl rfl (fun _=>Nat.le_succ _);have hlen:=RvL.length _ _ T;obtain⟨R,I⟩:=tb b4 D b0 new (us.toArray++Builtin.zeroCells zv.cells (grownCap w (m+1) 0 e-(m+1))) e (by
      have:(us.toArray++Builtin.zeroCells zv.cells (grownCap w (m+1) 0 e-(m+1))).toList.take new.length=us:=by simp[<-hlen]
      rw[this];exact RvL.ext a1 _ _ T) (by
      have:(us.toArray++Builtin.zeroCells zv.cells (grownCap w (m+1) 0 e-(m+1))).toList.take new.length=us:=by simp[<-hlen]
      rw[this];exact a6)
    have b7:m+1<=grownCap w (m+1) 0 e:=by simp[grownCap,Question.cut]
    have a8:zv.cells.size=n:=by simpa using c5
    have e0:(grownCap w (m+1) 0 e-(m+1))*n+(m+1)*n=grownCap w (m+1) 0 e*n:=by rw[<-Nat.add_mul];congr 1;omega
    refine⟨_,.slice (some ⟨w.heap.size,0,none⟩) (m+1) (grownCap w (m+1) 0 e),_,_,?_,.inl rfl,a1.trans R,I,.inr ⟨_,_,_,ja S D _,rfl,b7,rfl,fun _=>⟨rfl,?_⟩⟩,gW S D _ _⟩
    ·simp[Builtin.append_,run_underlying ht,run_underlying b3,sizeOf,typeInfo,zeroValue,hi,c6,Builtin.lenOf,c7,c8,g1,g2,Question.forced,run_firstCells_none,c4,newRow,grownCap]
    ·simp only[Array.size_append,List.size_toArray,b6,size_zeroCells,a8];omega
   ·cases h
  ·split at h
   ·rename_i h9;simp at h9
   ·cases h
  ·
   rename_i i' off len es;split at h
   ·rename_i cs hH;split at h
    ·rename_i E;simp only[Bool.and_eq_true,decide_eq_true_eq]at E;obtain⟨⟨⟨⟨rfl,k0⟩,k1⟩,k2⟩,k3⟩:=E;cases h;rcases hs with⟨rfl,rfl⟩|⟨p,b,C,b1,rfl,h2,h7,h3⟩
     ·
      have a7:=growslice_fits (need:=m+1) (old:=0) (bytes:=by_) (by omega) (by simpa using k2);have g1:¬9223372036854775807<((m:Int)+1):=by omega
      have g2:¬281474976710656<Builtin.nextslicecap (m+1) 0*by_:=by omega
      obtain⟨a1,b4⟩:=S.kill i' (w':=w.drew) rfl rfl rfl rfl (fun _=>Nat.le_succ _);have hlen:=RvL.length _ _ T;obtain⟨R,I⟩:=tb b4 (by simpa using D) b0 ((cs.drop off).take (0*es)++new) (us.toArray++Builtin.zeroCells zv.cells (grownCap w (m+1) 0 e-(m+1))) e (by
        have:(us.toArray++Builtin.zeroCells zv.cells (grownCap w (m+1) 0 e-(m+1))).toList.take ((cs.drop off).take (0*es)++new).length=us:=by simp[<-hlen]
        rw[this];simpa using RvL.ext a1 _ _ T) (by
        have:(us.toArray++Builtin.zeroCells zv.cells (grownCap w (m+1) 0 e-(m+1))).toList.take ((cs.drop off).take (0*es)++new).length=us:=by simp[<-hlen]
        rw[this];exact a6)
      have b7:m+1<=grownCap w (m+1) 0 e:=by simp[grownCap,Question.cut]
      have a8:zv.cells.size=es:=by simpa using c5
      have e0:(grownCap w (m+1) 0 e-(m+1))*es+(m+1)*es=grownCap w (m+1) 0 e*es:=by rw[<-Nat.add_mul];congr 1;omega
      have O:bj H [(i',.dead),(nid,.own ((cs.drop off).take (0*es)++new))]=bj (H.set i' .dead) [(nid,.own ((cs.drop off).take (0*es)++new))]:=by simp[bj,upd,aW hH]
      rw[<-O]at R I;refine⟨_,.slice (some ⟨w.heap.size,0,none⟩) (m+1) (grownCap w (m+1) 0 e),_,_,?_,.inl rfl,a1.trans R,I,.inr ⟨_,⟨w.heap.size,0,none⟩,grownCap w (m+1) 0 e,ja S D _,by rw[Nat.zero_add],by rw[Nat.zero_add];exact b7,rfl,fun _=>⟨rfl,?_⟩⟩,fun j N=>gW S D _ (.own ((cs.drop off).take (0*es)++new)) j (fun b Z=>N b (by simp at Z ⊢;exact .inr Z))⟩
      ·simp[Builtin.append_,run_underlying ht,run_underlying b3,sizeOf,typeInfo,zeroValue,hi,c6,Builtin.lenOf,c7,c8,g1,g2,Question.forced,run_firstCells_none,c4,newRow,grownCap]
      ·simp only[Array.size_append,List.size_toArray,b6,size_zeroCells,a8];omega
     obtain⟨⟨c,te,J,e8⟩,hC⟩:=S.ok i' _ p hH b1;have a8:zv.cells.size=es:=by simpa using c5
     obtain⟨os,o1,o2,o3,o4⟩:=qM (n:=len*es) (RvC.drop off cs _ _ hC) (by simp;omega);have b2:∀(w':World),(∀ad,w'.cell? ad=w.cell? ad)->∀b',some b=some b'->∀j u,os[j]?=some u->w'.cell? (b'.add j)=some u:=by
      intro w' h8 b' b9 j u N;cases b9;rw[h8];by_cases e5:0<C
      ·rw[(h3 e5).1];exact o4 j u N
      ·have:os.length=0:=by
        rw[o1];have:len=0:=by omega
        simp[this]
       rw[List.length_eq_zero_iff]at this;subst this;simp at N
     by_cases U:len+(m+1)<=C
     ·
      obtain⟨b9,a7⟩:=h3 (by omega);subst b9;have hK:p.off+off+len*es+us.length<=c.size:=by
       rw[b6,e8];have:len*es+(m+1)*es<=C*es:=by rw[<-Nat.add_mul];exact Nat.mul_le_mul_right _ U
       omega
      have e6:=run_storeCells_at P p.blk (p.off+off+len*es) te us 0 c w J (by simpa using hK) a6;simp only[Nat.add_zero]at e6;have c3:(Builtin.append_ #[t,t'] ty #[.slice (some ⟨p.blk,p.off+off,none⟩) len C,.slice a (m+1) cap]).run P w=
        .ok (.slice (some ⟨p.blk,p.off+off,none⟩) (len+(m+1)) C) (w.setRow p.blk (c.toList.take (p.off+off+len*es)++us++c.toList.drop (p.off+off+len*es+us.length)).toArray):=by
       simp[Builtin.append_,run_underlying ht,run_underlying b3,cE hn,Builtin.lenOf,U,c9,fV,e6]
      obtain⟨R,I⟩:=S.grow hH b1 rfl (.own ((cs.drop off).take (len*es)++new)) ⟨p.blk,p.off+off,p.size,fun _=>none⟩ rfl D b0 (w':=w.setRow p.blk (c.toList.take (p.off+off+len*es)++us++c.toList.drop (p.off+off+len*es+us.length)).toArray)
       (by simp) (fun b Z=>by simp only[World.setRow,Array.getElem?_modify];rw[if_neg (by omega)]) rfl rfl rfl (fun _=>Nat.le_refl _) (fun R=>by
        refine⟨⟨_,te,setRow_heap w _ c _ te _ J,?_⟩,?_⟩
        ·simp;omega
        ·refine jO _ (os++us) _ _ (RvL.append _ _ _ _ (RvL.ext R _ _ o2) (RvL.ext R _ _ T)) ?_ ?_
         ·intro u hu;rcases List.mem_append.1 hu with hu|hu
          ·exact o3 u hu
          ·exact a6 u hu
         ·intro j u N;simp only[World.cell?,setRow_heap w _ c _ te _ J];simp only[Option.isSome_none,Bool.false_eq_true,if_false,List.getElem?_toArray];have b8:(c.toList.take (p.off+off+len*es)).length=p.off+off+len*es:=by simp;omega
          rw[List.append_assoc];by_cases e9:j<os.length
          ·rw[List.getElem?_append_left e9]at N;rw[List.getElem?_append_left (by rw[b8];omega),List.getElem?_take,if_pos (by omega)];have:=o4 j u N;rw[fV]at this;simp only[World.cell?,J]at this;simpa using this
          ·rw[List.getElem?_append_right (by omega)]at N;rw[List.getElem?_append_right (by rw[b8];omega),b8,show p.off+off+j-(p.off+off+len*es)=j-os.length by omega];rw[List.getElem?_append_left (aW N)];exact N)
      have O:bj H [(i',.dead),(nid,.own ((cs.drop off).take (len*es)++new))]=upd (H.set i' .dead) nid (.own ((cs.drop off).take (len*es)++new)):=by simp[bj,upd,aW hH]
      rw[<-O]at R I;refine⟨_,.slice (some ⟨p.blk,p.off+off,none⟩) (len+(m+1)) C,_,_,by simp only[Sem.run_bind,c3,Result.andThen_ok];rfl,.inl rfl,R,I,.inr ⟨_,_,_,ja S D _,rfl,U,rfl,fun _=>⟨rfl,?_⟩⟩,fun j N=>gW S D _ (.own ((cs.drop off).take (len*es)++new)) j (fun b Z=>N b (by simp at Z ⊢;exact .inr Z))⟩;simpa using a7
     ·
      have a7:=growslice_fits (need:=len+(m+1)) (old:=C) (bytes:=by_) (by omega) k2;have g1:¬9223372036854775807<((len:Int)+((m:Int)+1)):=by omega
      have g2:¬281474976710656<Builtin.nextslicecap (len+(m+1)) C*by_:=by omega
      obtain⟨a1,b4⟩:=Inv.tX S hH b1 rfl .dead (w':=w.drew) rfl (fun _ _=>rfl) rfl rfl rfl (fun _=>Nat.le_succ _) (fun _=>trivial);have hlen:=RvL.length _ _ T;have j0:=fr (P:=P) (cap:=C) (a:=some b) w.drew o1 (fun e=>by cases e) (b2 w.drew (fun _=>by simp));have j1:=RvL.length _ _ o2;have j6:(os.toArray++us.toArray++Builtin.zeroCells zv.cells (grownCap w (len+(m+1)) C e-(len+(m+1)))).toList.take ((cs.drop off).take (len*es)++new).length=os++us:=by
       simp only[Array.toList_append,List.length_append];rw[<-j1,<-hlen,<-List.length_append,List.take_left]
      obtain⟨R,I⟩:=tb b4 (by simpa using D) b0 ((cs.drop off).take (len*es)++new) (os.toArray++us.toArray++Builtin.zeroCells zv.cells (grownCap w (len+(m+1)) C e-(len+(m+1)))) e
       (by rw[j6];exact RvL.ext a1 _ _ (RvL.append _ _ _ _ o2 T)) (by
        rw[j6];intro u hu;rcases List.mem_append.1 hu with hu|hu
        ·exact o3 u hu
        ·exact a6 u hu)
      have b7:len+(m+1)<=grownCap w (len+(m+1)) C e:=by simp[grownCap,Question.cut]
      have e0:(grownCap w (len+(m+1)) C e-(len+(m+1)))*es+(len*es+(m+1)*es)=grownCap w (len+(m+1)) C e*es:=by
       rw[<-Nat.add_mul,<-Nat.add_mul];congr 1;omega
      have O:bj H [(i',.dead),(nid,.own ((cs.drop off).take (len*es)++new))]=bj (H.set i' .dead) [(nid,.own ((cs.drop off).take (len*es)++new))]:=by simp[bj,upd,aW hH]
      rw[<-O]at R I;refine⟨_,.slice (some ⟨w.heap.size,0,none⟩) (len+(m+1)) (grownCap w (len+(m+1)) C e),_,_,?_,.inl rfl,a1.trans R,I,.inr ⟨_,_,_,ja S D _,rfl,b7,rfl,fun _=>⟨rfl,?_⟩⟩,fun j N=>gW S D _ (.own ((cs.drop off).take (len*es)++new)) j (fun b Z=>N b (by simp at Z ⊢;exact .inr Z))⟩
      ·simp[Builtin.append_,run_underlying ht,run_underlying b3,sizeOf,typeInfo,zeroValue,hi,c6,Builtin.lenOf,c7,c8,g1,g2,U,Question.forced,j0,c4,newRow,grownCap];congr 2;apply Array.ext';simp[List.append_assoc]
      ·simp only[Array.size_append,List.size_toArray,o1,b6,size_zeroCells,a8];omega
    ·cases h
   ·
    rename_i rs hH;split at h
    ·rename_i E;simp only[Bool.and_eq_true,decide_eq_true_eq]at E;obtain⟨⟨⟨⟨⟨⟨rfl,rfl⟩,rfl⟩,k1⟩,k2⟩,k3⟩,_⟩:=E;cases h;have h4:us.length=m+1:=by omega
     have hlen:=RvL.length _ _ T;have a8:zv.cells.size=1:=by simpa using c5
     have O:bj H [(i',.dead),(nid,.rows (rs.take len++new.map .av))]=upd (H.set i' .dead) nid (.rows (rs.take len++new.map .av)):=by simp[bj,upd,aW hH]
     have Y:∀{k e7 es':Nat} {cs':List AV},(rs.take len++new.map RC.av)[k]?=some (.row e7 es' cs')->rs[k]?=some (.row e7 es' cs'):=by
      intro k e7 es' cs' h;by_cases hk:k<(rs.take len).length
      ·rw[List.getElem?_append_left hk,List.getElem?_take]at h;split at h
       ·exact h
       ·cases h
      ·rw[List.getElem?_append_right (by omega),List.getElem?_map]at h;cases hn:new[k-(rs.take len).length]? with
       |none=>rw[hn]at h;cases h
       |some z=>rw[hn]at h;cases h
     have cells:∀(w':World) (mu':Nat->Prop) (π':List (Option PB)) (os:List Value) (ss:Nat->Option (Nat×Nat×Nat)) (nb no:Nat),Ext B w w' (aY out π H) mu' π π'->os.length=len->
       (∀j u,os[j]?=some u->∃x,rs[j]?=some x/\RcV w (aY out π H) π (ss j) x u)->(∀k len es cs q,rs[k]?=some (RC.row len es cs)->ss k=some q->w'.heap[q.1]?=w.heap[q.1]?)->
       (∀j u,(os++us)[j]?=some u->w'.cell? ⟨nb,no+j,none⟩=some u)->RvW w' mu' π' (rs.take len++new.map .av) ss nb no:=by
      intro w' mu' π' os ss nb no R j1 k8 hq hc;refine RvW.of _ _ _ _ fun k x hk=>?_
      by_cases k9:k<len
      ·have l0:k<(rs.take len).length:=by simp;omega
       rw[List.getElem?_append_left l0,List.getElem?_take,if_pos k9]at hk;obtain⟨u,hu⟩:∃u,os[k]?=some u:=⟨os[k],geT (by omega)⟩;obtain⟨x',x1,x2⟩:=k8 k u hu;rw[hk]at x1;cases x1;refine⟨u,hc k u (by rw[List.getElem?_append_left (by omega)];exact hu),x2.ext R fun len es cs q e1 e2=>?_⟩;subst e1;exact hq k len es cs q hk e2
      ·have b8:(rs.take len).length=len:=by simp;omega
       rw[List.getElem?_append_right (by omega),b8,List.getElem?_map]at hk;cases hn:new[k-len]? with
       |none=>rw[hn]at hk;cases hk
       |some A=>
        rw[hn]at hk;cases hk;obtain⟨u,u1,u2⟩:=RvL.get _ _ _ _ T hn;exact⟨u,hc k u (by rw[List.getElem?_append_right (by omega),j1];exact u1),a6 u (List.mem_of_getElem? u1),Rv.ext R A u u2⟩
     rcases hs with⟨rfl,rfl⟩|⟨p,b,C,b1,rfl,h2,h7,h3⟩
     ·
      have a7:=growslice_fits (need:=m+1) (old:=0) (bytes:=by_) (by omega) (by simpa using k2);have g1:¬9223372036854775807<((m:Int)+1):=by omega
      have g2:¬281474976710656<Builtin.nextslicecap (m+1) 0*by_:=by omega
      obtain⟨a1,b4⟩:=S.kill i' (w':=w.drew) rfl rfl rfl rfl (fun _=>Nat.le_succ _);have j7:∀b',(Blk.rows (rs.take 0++new.map .av)).owns ⟨w.heap.size,0,(us.toArray++Builtin.zeroCells zv.cells (grownCap w (m+1) 0 e-(m+1))).size,fun _=>none⟩ b'->w.heap.size=b':=by
       rintro b' (h|⟨k,l',e',c',q,_,h,_⟩)
       ·exact h
       ·cases h
      have j2:=qQ b4 (.cells (us.toArray++Builtin.zeroCells zv.cells (grownCap w (m+1) 0 e-(m+1))) e) (.rows (rs.take 0++new.map .av)) ⟨w.heap.size,0,(us.toArray++Builtin.zeroCells zv.cells (grownCap w (m+1) 0 e-(m+1))).size,fun _=>none⟩ rfl (by simpa using D) b0 j7;have j8:=b4.alloc (.cells (us.toArray++Builtin.zeroCells zv.cells (grownCap w (m+1) 0 e-(m+1))) e) (.rows (rs.take 0++new.map .av)) ⟨w.heap.size,0,(us.toArray++Builtin.zeroCells zv.cells (grownCap w (m+1) 0 e-(m+1))).size,fun _=>none⟩ rfl (by simpa using D) b0
       ⟨⟨_,e,(by show(w.heap.push _)[w.heap.size]?=_;simp),rfl⟩,cells _ _ _ [] (fun _=>none) _ _ (a1.trans j2) rfl (fun j u h=>by simp at h) (fun k l' e' c' q _ h=>by cases h) (fun j u N=>by
        show((w.drew.alloc _).cell? ⟨w.drew.heap.size,0+j,none⟩)=some u;rw[Nat.zero_add,World.cell?_alloc_new];have N:us[j]?=some u:=by simpa using N
        have:=aW N;simp[Array.getElem?_append,this,N];simpa using(List.getElem?_eq_some_iff.1 N).2),And.intro (fun k l' e' c' q _ h=>by cases h) (fun k k' l' e' l2 e2 c' c2 q q' _ _ _ h=>by cases h)⟩ j7
      rw[<-O]at j2 j8;have b7:m+1<=grownCap w (m+1) 0 e:=by simp[grownCap,Question.cut]
      refine⟨_,.slice (some ⟨w.heap.size,0,none⟩) (m+1) (grownCap w (m+1) 0 e),_,_,?_,.inl rfl,a1.trans j2,j8,.inr ⟨_,⟨w.heap.size,0,none⟩,grownCap w (m+1) 0 e,ja S D _,by rw[Nat.zero_add],by rw[Nat.zero_add];exact b7,rfl,fun _=>⟨rfl,?_⟩⟩,fun j N=>gW S D _ (.rows (rs.take 0++new.map .av)) j (fun b Z=>N b (by simp at Z ⊢;exact .inr Z))⟩
      ·simp[Builtin.append_,run_underlying ht,run_underlying b3,sizeOf,typeInfo,zeroValue,hi,c6,Builtin.lenOf,c7,c8,g1,g2,Question.forced,run_firstCells_none,c4,newRow,grownCap]
      ·simp only[Array.size_append,List.size_toArray,h4,size_zeroCells,a8];omega
     obtain⟨⟨c,te,J,e8⟩,hC,j9,k4⟩:=S.ok i' _ p hH b1;obtain⟨os,o1,o3,o4⟩:=RvW.Ht hC len k1;have b2:∀(w':World),(∀ad,w'.cell? ad=w.cell? ad)->∀b',some b=some b'->∀j u,os[j]?=some u->w'.cell? (b'.add j)=some u:=by
      intro w' h8 b' b9 j u N;cases b9;rw[h8];by_cases e5:0<C
      ·rw[(h3 e5).1,fV];exact(o4 j u N).1
      ·have:os.length=0:=by omega
       rw[List.length_eq_zero_iff]at this;subst this;simp at N
     by_cases U:len+(m+1)<=C
     ·
      obtain⟨b9,a7⟩:=h3 (by omega);subst b9;have hK:p.off+0+len*1+us.length<=c.size:=by omega
      have e6:=run_storeCells_at P p.blk (p.off+0+len*1) te us 0 c w J (by simpa using hK) a6;simp only[Nat.add_zero]at e6;have c3:(Builtin.append_ #[t,t'] ty #[.slice (some ⟨p.blk,p.off+0,none⟩) len C,.slice a (m+1) cap]).run P w=
        .ok (.slice (some ⟨p.blk,p.off+0,none⟩) (len+(m+1)) C) (w.setRow p.blk (c.toList.take (p.off+len*1)++us++c.toList.drop (p.off+len*1+us.length)).toArray):=by
       simp[Builtin.append_,run_underlying ht,run_underlying b3,cE hn,Builtin.lenOf,U,c9,fV];have k5:(storeCells ⟨p.blk,p.off+len,none⟩ us).run P w=.ok () (w.setRow p.blk (c.toList.take (p.off+len)++(us++c.toList.drop (p.off+len+us.length))).toArray):=by simpa using e6
       rw[k5];rfl
      obtain⟨R,I⟩:=S.grow hH b1 rfl (.rows (rs.take len++new.map .av)) ⟨p.blk,p.off,p.size,p.subs⟩ rfl D b0 (w':=w.setRow p.blk (c.toList.take (p.off+len*1)++us++c.toList.drop (p.off+len*1+us.length)).toArray)
       (by simp) (fun b Z=>by simp only[World.setRow,Array.getElem?_modify];rw[if_neg (by omega)]) rfl rfl rfl (fun _=>Nat.le_refl _) (fun R=>by
        refine⟨⟨_,te,setRow_heap w _ c _ te _ J,?_⟩,cells _ _ _ os p.subs _ _ R o1 (fun j u N=>(o4 j u N).2) (fun k l' e' c' q g1 g2=>?_) ?_,fun k l' e' c' q g1 g2=>j9 k l' e' c' q (Y g1) g2,fun k k' l' e' l2 e2 c' c2 q q' j3 g1 g2 g3 g4=>k4 k k' l' e' l2 e2 c' c2 q q' j3 (Y g1) (Y g2) g3 g4⟩
        ·simp;omega
        ·have:=j9 k l' e' c' q g1 g2;simp only[World.setRow,Array.getElem?_modify];rw[if_neg (by omega)]
        ·intro j u N;simp only[World.cell?,setRow_heap w _ c _ te _ J];simp only[Option.isSome_none,Bool.false_eq_true,if_false,List.getElem?_toArray];have b8:(c.toList.take (p.off+len*1)).length=p.off+len*1:=by simp;omega
         rw[List.append_assoc];by_cases e9:j<os.length
         ·rw[List.getElem?_append_left e9]at N;rw[List.getElem?_append_left (by rw[b8];omega),List.getElem?_take,if_pos (by omega)];have:=(o4 j u N).1;simp only[World.cell?,J]at this;simpa using this
         ·rw[List.getElem?_append_right (by omega)]at N;rw[List.getElem?_append_right (by rw[b8];omega),b8,show p.off+j-(p.off+len*1)=j-os.length by omega];rw[List.getElem?_append_left (aW N)];exact N) (by
        rintro b' (h|⟨k,l',e',c',q,g1,g2,g3⟩)
        ·exact .inl h
        ·exact .inr ⟨k,l',e',c',q,Y g1,g2,g3⟩)
      rw[<-O]at R I;refine⟨_,.slice (some ⟨p.blk,p.off+0,none⟩) (len+(m+1)) C,_,_,by simp only[Sem.run_bind,c3,Result.andThen_ok];rfl,.inl rfl,R,I,.inr ⟨_,_,_,ja S D _,rfl,U,rfl,fun _=>⟨rfl,?_⟩⟩,fun j N=>gW S D _ (.rows (rs.take len++new.map .av)) j (fun b Z=>N b (by simp at Z ⊢;exact .inr Z))⟩;simpa using a7
     ·
      have a7:=growslice_fits (need:=len+(m+1)) (old:=C) (bytes:=by_) (by omega) k2;have g1:¬9223372036854775807<((len:Int)+((m:Int)+1)):=by omega
      have g2:¬281474976710656<Builtin.nextslicecap (len+(m+1)) C*by_:=by omega
      have j0:=fr (P:=P) (n:=1) (m:=len) (cap:=C) (a:=some b) w.drew (by omega) (fun e=>by cases e) (b2 w.drew (fun _=>by simp));obtain⟨R,I⟩:=S.move hH b1 rfl (.rows (rs.take len++new.map .av)) ⟨w.heap.size,0,(os.toArray++us.toArray++Builtin.zeroCells zv.cells (grownCap w (len+(m+1)) C e-(len+(m+1)))).size,p.subs⟩ D b0
       (w':=w.drew.alloc (.cells (os.toArray++us.toArray++Builtin.zeroCells zv.cells (grownCap w (len+(m+1)) C e-(len+(m+1)))) e)) (by simp) (fun b' b9 _=>by simp only[World.alloc,World.drew,Array.getElem?_push];rw[if_neg (by omega)]) rfl rfl rfl (fun _=>Nat.le_succ _) (by
        rintro b' (h|⟨k,l',e',c',q,g1,g2,g3⟩)
        ·simp only at h;subst h;right;simp
        ·exact .inl (.inr ⟨k,l',e',c',q,Y g1,g2,g3⟩)) (fun R=>by
        refine⟨⟨_,e,(by show(w.heap.push _)[w.heap.size]?=_;simp),rfl⟩,cells _ _ _ os p.subs _ _ R o1 (fun j u N=>(o4 j u N).2) (fun k l' e' c' q g1 g2=>?_) ?_,fun k l' e' c' q g1 g2=>?_,fun k k' l' e' l2 e2 c' c2 q q' j3 g1 g2 g3 g4=>k4 k k' l' e' l2 e2 c' c2 q q' j3 (Y g1) (Y g2) g3 g4⟩
        ·have:=(S.baseO i' _ p q.1 hH b1 (.inr ⟨k,l',e',c',q,g1,g2,rfl⟩)).2;simp only[World.alloc,World.drew,Array.getElem?_push];rw[if_neg (by omega)]
        ·intro j u N;show((w.drew.alloc _).cell? ⟨w.drew.heap.size,0+j,none⟩)=some u;rw[Nat.zero_add,World.cell?_alloc_new];have e9:=aW N;have hl:(os.toArray++us.toArray)[j]?=some u:=by
          have e:os.toArray++us.toArray=(os++us).toArray:=by simp
          rw[e,List.getElem?_toArray];exact N
         rw[Array.getElem?_append,if_pos (by have:=(Array.getElem?_eq_some_iff.1 hl).1;exact this)];exact hl
        ·have:=(S.baseO i' _ p q.1 hH b1 (.inr ⟨k,l',e',c',q,Y g1,g2,rfl⟩)).2;simp only;omega)
      have b7:len+(m+1)<=grownCap w (len+(m+1)) C e:=by simp[grownCap,Question.cut]
      rw[<-O]at R I;refine⟨_,.slice (some ⟨w.heap.size,0,none⟩) (len+(m+1)) (grownCap w (len+(m+1)) C e),_,_,?_,.inl rfl,R,I,.inr ⟨_,_,_,ja S D _,rfl,b7,rfl,fun _=>⟨rfl,?_⟩⟩,fun j N=>gW S D _ (.rows (rs.take len++new.map .av)) j (fun b Z=>N b (by simp at Z ⊢;exact .inr Z))⟩
      ·simp[Builtin.append_,run_underlying ht,run_underlying b3,sizeOf,typeInfo,zeroValue,hi,c6,Builtin.lenOf,c7,c8,g1,g2,U,Question.forced,j0,c4,newRow,grownCap];congr 2;apply Array.ext';simp[List.append_assoc]
      ·simp only[Array.size_append,List.size_toArray,o1,h4,size_zeroCells,a8];omega
    ·cases h
   ·cases h
  ·exact(hq ⟨_,_,_,_,_,rfl⟩).elim
  ·cases h
end
def zA(P:Program):Prop:=∀(f:Nat) (fn:Func),P.funcs[f]?=some fn->fn.name≠ "runtime.NumGoroutine"
section
variable{P:Program}{out:Nat->Prop}{B:Nat->Prop}{w:World}{π:List (Option PB)}{H:List Blk}
theorem BH(U:Inv out B w π H){at_:Array TypeId}{t e ty:TypeId}{n:Nat}{d x:AV}{vd vx:Value}{r:ct}(h0:at_[0]?=some t)(ht:P.underlying t=some (.slice e))(hn:fW P e=some n)
  (hd:Rv w (aY out π H) π d vd) (hx:Rv w (aY out π H) π x vx) (h:xW H n d x=some r):dx P out B w π H (do pure (.value (<-Builtin.copy_ at_ ty #[vd,vx]))) r:=by
 unfold xW at h;split at h
 ·cases h
 rename_i new m hc;obtain⟨a,cap,rfl,J,b1,us,N,C,O,E⟩:=nE U hx hc;split at h
 rotate_left
 ·cases h
 rename_i i off len es;split at h
 rotate_left
 ·cases h
 rename_i cs hH;split at h
 rotate_left
 ·cases h
 rename_i z;cases h;simp only[Bool.and_eq_true,decide_eq_true_eq]at z;obtain⟨rfl,hle⟩:=z;have R:Nat.min m len<=m:=Nat.min_le_left _ _;have a1:Nat.min m len<=len:=Nat.min_le_right _ _;have b2:Nat.min m len*es<=m*es:=Nat.mul_le_mul_right _ R;have b3:Nat.min m len*es<=len*es:=Nat.mul_le_mul_right _ a1;have q:bj H [(i,.own cs)]=H:=by
  simp only[bj,upd,aW hH,if_true];apply List.ext_getElem?;intro j;rw[List.getElem?_set];split
  ·rename_i a6;subst a6;rw[if_pos (aW hH)];exact hH.symm
  ·rfl
 have S:∀k,k<=m->(Builtin.firstCells es k (.slice a m cap)).run P w=.ok (us.take (k*es)).toArray w:=by
  intro k hk;cases a with
  |none=>
   have:=J rfl;subst this;have:us=[]:=by rw[<-List.length_eq_zero_iff,N];simp
   subst this;simp[Builtin.firstCells]
  |some b=>
   refine run_firstCells_some w es k b m cap _ ?_ fun j u Y=>E b rfl j u ?_
   ·rw[List.length_take,N];exact Nat.min_eq_left (Nat.mul_le_mul_right _ hk)
   ·rw[List.getElem?_take]at Y;split at Y
    ·exact Y
    ·cases Y
 rcases hd with⟨rfl,rfl⟩|⟨p,ad,D,hp,rfl,b4,b5,T⟩
 ·
  have e0:Nat.min m 0=0:=Nat.min_zero m;have I:=S 0 (Nat.zero_le _);simp only[e0,Nat.zero_mul,List.take_zero,setCells]at I ⊢;refine⟨.value (.int .i64 0),.int .i64 0,w,π,?_,.inl rfl,?_,?_,rfl,fun _ _=>rfl⟩
  ·simp[Builtin.copy_,h0,run_underlying ht,cE hn,Builtin.lenOf,e0,I,goInt]
  ·rw[q];exact Ext.refl _ _ _
  ·rw[q];exact U
 ·have I:=S _ R;by_cases Z:Nat.min m len*es=0
  ·rw[Z]at I;simp only[Z,List.take_zero,setCells]at I ⊢;refine⟨.value (.int .i64 (Nat.min m len:Nat)),.int .i64 (Nat.min m len:Nat),w,π,?_,.inl rfl,?_,?_,rfl,fun _ _=>rfl⟩
   ·simp only[Builtin.copy_]at*;simp[h0,run_underlying ht,cE hn,Builtin.lenOf,I,storeCells,goInt]
   ·rw[q];exact Ext.refl _ _ _
   ·rw[q];exact U
  ·have a7:0<D:=by
    rcases Nat.eq_zero_or_pos D with h|h
    ·have:Nat.min m len=0:=by omega
     rw[this]at Z;simp at Z
    ·exact h
   obtain⟨a8,_⟩:=T a7;obtain⟨ab,ao,b6⟩:=ad;have b0:RvL w (aY out π H) π (new.take (Nat.min m len*es)) (us.take (Nat.min m len*es)):=RvL.take _ _ _ C;have b7:=RvL.length _ _ C;obtain⟨w',r1,r2,r3⟩:=pS (P:=P) hp (new.take (Nat.min m len*es)) (us.take (Nat.min m len*es)) 0 off cs w H U hH b0 (fun v hv=>O v (List.mem_of_mem_take hv)) (by rw[List.length_take];omega);have hu:bj H [(i,.own (setCells cs off (new.take (Nat.min m len*es))))]=H.set i (.own (setCells cs off (new.take (Nat.min m len*es)))):=by simp[bj,upd,aW hH]
   rw[Nat.add_zero]at r2 r3;refine⟨.value (.int .i64 (Nat.min m len:Nat)),.int .i64 (Nat.min m len:Nat),w',π,?_,.inl rfl,by rw[hu];exact r2,by rw[hu];exact r3,rfl,fun _ _=>rfl⟩;rw[a8];simp only[Builtin.copy_]at*;simp[h0,run_underlying ht,cE hn,Builtin.lenOf,I,r1,goInt]
theorem yr(N:Inv out B w π H){nid:Nat}(C:nid<=H.length)(O:∀q,π[nid]?≠some (some q)){t t' e ty:TypeId}{kk:IntKind}{n by_:Nat}{z:List AV}{s x:AV}{vs vx:Value}{r:ct}(ht:P.underlying t=some (.slice e))(R:P.underlying t'=some (.int kk))
  (hn:fW P e=some n) (hb:pF P e=some by_) (hz:mh P e=some z) (hs:Rv w (aY out π H) π s vs) (hx:Rv w (aY out π H) π x vx) (h:vb nid n by_ z s x=some r):
  dx P out B w π H (do pure (.value (<-Builtin.append_ #[t,t'] ty #[vs,vx]))) r:=by
 obtain⟨j,i,hi,S,b5,rfl⟩:=qB hz w;have T:i.size=n:=by simpa [fW,hi]using hn
 have U:i.bytes=by_:=by simpa [pF,hi]using hb
 unfold vb at h;split at h
 ·rename_i k;split at h
  ·rename_i D;simp only[Bool.and_eq_true,decide_eq_true_eq]at D;obtain⟨⟨⟨⟨⟨k0,k1⟩,k2⟩,k3⟩,k4⟩,k5⟩:=D;cases h;cases hs;cases hx;obtain⟨M,rfl⟩:∃M:Nat,k=(M:Int):=⟨k.toNat,by omega⟩;have hM:0<M:=by omega
   have Y:¬M=0:=by omega
   have hk:((M:Int)).toNat=M:=by omega
   rw[hk]at k2 ⊢;have b6:=growslice_fits (need:=M) (old:=0) (bytes:=by_) (by omega) k2;have g1:¬9223372036854775807<(M:Int):=by omega
   have g2:¬281474976710656<Builtin.nextslicecap M 0*by_:=by omega
   have hw:IntKind.i64.wrap ((M:Int))=(M:Int):=by
    simp[IntKind.wrap,IntKind.bits,IntKind.signed];omega
   have g3:¬(2:Int)^48<(M:Int)*(by_:Int):=by
    rw[<-Int.natCast_mul];omega
   obtain⟨Z,a1⟩:=N.same (w':=w.drew) rfl rfl rfl rfl (fun _=>Nat.le_succ _);have E:j.cells.size=n:=by simpa using k4
   have a6:(Builtin.zeroCells j.cells M).toList=(List.replicate M j.cells.toList).flatten:=mS j.cells M (by omega);have I:∀(w0:World) (a7:Nat->Prop) (π0:List (Option PB)),RvL w0 a7 π0 (eu (j.cells.toList.map .at) M) ((List.replicate M j.cells.toList).flatten):=fun _ _ _=>sW _ _
   have hlen:=RvL.length _ _ (I w (aY out π H) π);have J:(Builtin.zeroCells j.cells M++Builtin.zeroCells j.cells (grownCap w M 0 e-M)).toList.take (eu (j.cells.toList.map .at) M).length=(List.replicate M j.cells.toList).flatten:=by
    rw[<-hlen,Array.toList_append,a6,List.take_left'];rfl
   obtain⟨hE,a8⟩:=tb a1 C O (eu (j.cells.toList.map .at) M) (Builtin.zeroCells j.cells M++Builtin.zeroCells j.cells (grownCap w M 0 e-M)) e (by rw[J];exact I _ _ _) (by rw[J];exact lY (all_zero k5) _);have b0:M<=grownCap w M 0 e:=by simp[grownCap,Question.cut]
   have e0:(grownCap w M 0 e-M)*n+M*n=grownCap w M 0 e*n:=by rw[<-Nat.add_mul];congr 1;omega
   refine⟨_,.slice (some ⟨w.heap.size,0,none⟩) M (grownCap w M 0 e),_,_,?_,.inl rfl,Z.trans hE,a8,.inr ⟨_,_,_,ja N C _,rfl,b0,rfl,fun _=>⟨rfl,?_⟩⟩,gW N C _ _⟩
   ·have b1:¬M*n=0:=by
     intro h0;rcases Nat.mul_eq_zero.1 h0 with h0|h0<;>omega
    have b2:¬n=0:=by omega
    have b3:¬281474976710656<(M:Int)*(by_:Int):=by rw[<-Int.natCast_mul];omega
    have g4:M<=9223372036854775807:=by omega
    have b4:¬(M:Int)<0:=by omega
    simp only[Builtin.append_];simp[run_underlying ht,run_underlying R,sizeOf,typeInfo,zeroValue,hi,S,asInt,asIntOf,hw,b4,b3,Y,b2,g4,T,U,g1,g2,b1,Question.forced,run_firstCells_none,newRow,grownCap]
   ·simp only[Array.size_append,size_zeroCells,E];omega
  ·cases h
 ·cases h
theorem AX(S:Inv out B w π H){at_:Array TypeId}{t e ty:TypeId}{n:Nat}{z:List AV}{d:AV}{vd:Value}{r:ct}(T:at_[0]?=some t)(U:P.underlying t=some (.slice e))(hn:fW P e=some n)(hz:mh P e=some z)
  (hd:Rv w (aY out π H) π d vd) (h:tO H n z d=some r):dx P out B w π H (do pure (.value (<-Builtin.clear_ at_ ty #[vd]))) r:=by
 obtain⟨C,i0,hi,b2,I,rfl⟩:=qB hz w;unfold tO at h;split at h
 rotate_left
 ·cases h
 rename_i i off len es;split at h
 rotate_left
 ·cases h
 rename_i cs hH;split at h
 rotate_left
 ·cases h
 rename_i D;cases h;simp only[Bool.and_eq_true,decide_eq_true_eq]at D;obtain⟨⟨⟨⟨rfl,hle⟩,Y⟩,E⟩,Z⟩:=D;have q:bj H [(i,.own cs)]=H:=by
  simp only[bj,upd,aW hH,if_true];apply List.ext_getElem?;intro j;rw[List.getElem?_set];split
  ·rename_i a1;subst a1;rw[if_pos (aW hH)];exact hH.symm
  ·rfl
 have a6:C.cells.size=es:=by simpa using Y
 rcases hd with⟨rfl,rfl⟩|⟨p,ad,J,hp,rfl,b3,b4,N⟩
 ·simp only[eu,setCells];refine⟨.value (.tuple #[]),.tuple #[],w,π,?_,.inl rfl,?_,?_,rfl,fun _ _=>rfl⟩
  ·simp[Builtin.clear_,T,run_underlying U]
  ·rw[q];exact Ext.refl _ _ _
  ·rw[q];exact S
 ·cases len with
  |zero=>
   simp only[eu,setCells];refine⟨.value (.tuple #[]),.tuple #[],w,π,?_,.inl rfl,?_,?_,rfl,fun _ _=>rfl⟩
   ·simp[Builtin.clear_,T,run_underlying U]
   ·rw[q];exact Ext.refl _ _ _
   ·rw[q];exact S
  |succ m=>
   have a7:0<J:=by omega
   obtain⟨a8,_⟩:=N a7;obtain⟨ab,ao,b5⟩:=ad;have O:(Builtin.zeroCells C.cells (m+1)).toList=(List.replicate (m+1) C.cells.toList).flatten:=mS C.cells (m+1) (by omega);have R:RvL w (aY out π H) π (eu ((C.cells.toList.map .at).map wkN) (m+1)) ((List.replicate (m+1) C.cells.toList).flatten):=xB _ _;have b0:=RvL.length _ _ R;have b1:(eu ((C.cells.toList.map .at).map wkN) (m+1)).length=(m+1)*es:=by rw[<-b0,<-O,Array.length_toList,size_zeroCells,a6]
   obtain⟨w',r1,r2,r3⟩:=pS (P:=P) hp (eu ((C.cells.toList.map .at).map wkN) (m+1)) ((List.replicate (m+1) C.cells.toList).flatten) 0 off cs w H S hH R (lY (all_zero E) _) (by omega);have hu:bj H [(i,.own (setCells cs off (eu ((C.cells.toList.map .at).map wkN) (m+1))))]=H.set i (.own (setCells cs off (eu ((C.cells.toList.map .at).map wkN) (m+1)))):=by simp[bj,upd,aW hH]
   rw[Nat.add_zero]at r2 r3;refine⟨.value (.tuple #[]),.tuple #[],w',π,?_,.inl rfl,by rw[hu];exact r2,by rw[hu];exact r3,rfl,fun _ _=>rfl⟩;rw[a8];rw[<-O]at r1;simp[Builtin.clear_,T,run_underlying U,I,r1]
theorem zB(j:zA P){f:FuncId}(h:xH P f=true)(args:Array Value)(w:World):(callFunc f args).run P w=.ok (.enter f args) w:=by
 unfold xH at h;split at h
 ·rename_i fn q;have z:=j f fn q;have C:¬fn.body=none:=by intro e;simp[e]at h
  simp[callFunc,q,z,C]
 ·cases h
theorem xG(Y:Inv out B w π H){nid:Nat}(N:nid<=H.length)(Z:∀q,π[nid]?≠some (some q)){b:Builtin}{at_:Array TypeId}{ty:TypeId}{consts:Array Bool}{args:List AV}{vs:List Value}{r:ct}(O:RvL w (aY out π H) π args vs)(h:om P H nid b at_ ty args=some r):
  dx P out B w π H (builtin b at_ ty consts vs.toArray) r:=by
 unfold om at h;split at h
 ·rename_i x;obtain⟨v,R,rfl,I,rfl⟩:=O;split at h
  ·rename_i t J;split at h
   rotate_left
   ·refine ky h fun A C=>?_
    unfold Eg at C;split at C
    ·rename_i i hu a7;split at C
     ·rename_i es hH;cases C;obtain⟨p,hp,rfl⟩:=I;obtain⟨a,ha,hr⟩:=Y.ok i _ p hH hp;have hl:=RvM.len es a.toList 0 hr;exact dx.value (v:=.int .i64 (a.size:Nat)) (by simp[Builtin.len_,J,run_underlying hu,goInt,Go.MapKept.run_getObj_map ha]) (by
       have:a.size=es.length:=by simpa using hl
       rw[this];rfl)
     ·cases C
    ·cases C
   rename_i A C;cases h;have:∃u,(Builtin.len_ at_ ty #[v]).run P w=.ok u w/\Rv w (aY out π H) π A u:=by
    unfold GN at C;split at C
    ·rename_i e nl cs len hu;cases C;rcases I with⟨_,rfl,_,rfl⟩|⟨b,o,cap,rfl,_⟩|⟨rfl,_,a,cap,rfl⟩
     rotate_left 2
     ·exact⟨.int .i64 0,by simp[Builtin.len_,J,run_underlying hu,goInt],rfl⟩
     ·exact⟨.int .i64 0,by simp[Builtin.len_,J,run_underlying hu,goInt],rfl⟩
     ·exact⟨.int .i64 len,by simp[Builtin.len_,J,run_underlying hu,goInt],rfl⟩
    ·rename_i e b off len es hu;cases C;rcases I with⟨rfl,rfl⟩|⟨p,a,cap,_,rfl,_⟩
     ·exact⟨.int .i64 0,by simp[Builtin.len_,J,run_underlying hu,goInt],rfl⟩
     ·exact⟨.int .i64 len,by simp[Builtin.len_,J,run_underlying hu,goInt],rfl⟩
    ·rename_i e hu;cases C;cases I;exact⟨.int .i64 0,by simp[Builtin.len_,J,run_underlying hu,goInt],rfl⟩
    ·rename_i s hu;cases C;cases I;exact⟨.int .i64 s.size,by simp[Builtin.len_,J,run_underlying hu,goInt],rfl⟩
    ·rename_i y n e hu;cases C;exact⟨.int .i64 n,by simp[Builtin.len_,J,run_underlying hu,goInt],rfl⟩
    ·cases C
   obtain⟨u,h1,h2⟩:=this;exact dx.value h1 h2
  ·cases h
 ·rename_i s x;obtain⟨v,R,rfl,hs,u,a1,rfl,I,rfl⟩:=O;split at h
  ·rename_i t t' h1 h2;split at h
   ·rename_i e e' hu S;split at h
    ·rename_i n by_ z T hb hz;split at h
     ·rename_i a6;have:=zM Y N Z (ty:=ty) hu S T hb hz (by simpa using a6) hs I h;have e1:(Builtin.append_ at_ ty #[v,u]).run P=(Builtin.append_ #[t,t'] ty #[v,u]).run P:=by
       funext w;simp only[Builtin.append_,h1,h2];rfl
      have e2:(do pure (Next.value (<-Builtin.append_ at_ ty #[v,u])):Sem Next).run P=(do pure (Next.value (<-Builtin.append_ #[t,t'] ty #[v,u])):Sem Next).run P:=by
       funext w;simp only[Sem.run_bind,e1]
      cases r with
      |pure A=>obtain⟨U,y,j,D⟩:=this;exact⟨U,y,by rw[<-e2]at j;exact j,D⟩
      |eff A H'=>obtain⟨U,y,w',π',j,D⟩:=this;exact⟨U,y,w',π',by rw[<-e2]at j;exact j,D⟩
      |call f as=>obtain⟨y,j,D⟩:=this;exact⟨y,by rw[<-e2]at j;exact j,D⟩
     ·cases h
    ·cases h
   ·rename_i e kk hu S;split at h
    ·rename_i n by_ z T hb hz;have:=yr Y N Z (ty:=ty) hu S T hb hz hs I h;have e1:(Builtin.append_ at_ ty #[v,u]).run P=(Builtin.append_ #[t,t'] ty #[v,u]).run P:=by
      funext w;simp only[Builtin.append_,h1,h2];rfl
     have e2:(do pure (Next.value (<-Builtin.append_ at_ ty #[v,u])):Sem Next).run P=(do pure (Next.value (<-Builtin.append_ #[t,t'] ty #[v,u])):Sem Next).run P:=by
      funext w;simp only[Sem.run_bind,e1]
     cases r with
     |pure A=>obtain⟨U,y,j,D⟩:=this;exact⟨U,y,by rw[<-e2]at j;exact j,D⟩
     |eff A H'=>obtain⟨U,y,w',π',j,D⟩:=this;exact⟨U,y,w',π',by rw[<-e2]at j;exact j,D⟩
     |call f as=>obtain⟨y,j,D⟩:=this;exact⟨y,by rw[<-e2]at j;exact j,D⟩
    ·cases h
   ·cases h
  ·cases h
 ·rename_i d x;obtain⟨v,R,rfl,hs,u,a1,rfl,I,rfl⟩:=O;split at h
  ·rename_i t h1;split at h
   ·rename_i e hu;split at h
    ·rename_i n T;exact BH Y h1 hu T hs I h
    ·cases h
   ·cases h
  ·cases h
 ·rename_i d;obtain⟨v,R,rfl,hs,rfl⟩:=O;split at h
  ·rename_i t h1;split at h
   ·rename_i e hu;split at h
    ·rename_i n z T hz;exact AX Y h1 hu T hz hs h
    ·cases h
   ·cases h
  ·cases h
 ·split at h
  ·rename_i us E;have:=pz args vs us O E;subst this;split at h
   ·rename_i y hy;cases h;exact dx.value (ij hy w) rfl
   ·cases h
  ·cases h
 ·split at h
  ·rename_i us E;have:=pz args vs us O E;subst this;split at h
   ·rename_i y hy;cases h;exact dx.value (ij hy w) rfl
   ·cases h
  ·cases h
 ·split at h
  ·rename_i us E;have:=pz args vs us O E;subst this;split at h
   ·rename_i y hy;cases h;exact dx.value (ij hy w) rfl
   ·cases h
  ·cases h
 ·cases h
theorem lH(a6:zA P)(D:Inv out B w π H){nid:Nat}(j:nid<=H.length)(E:∀q,π[nid]?≠some (some q)){ρ:Operand->AV}{ρc:Operand->Value}(hρ:∀x,Rv w (aY out π H) π (ρ x) (ρc x)){o:Oper}{r:ct}(h:evalOp P ρ H nid o=some r):
  dx P out B w π H (execOp ρc o) r:=by
 unfold evalOp at h;unfold execOp;cases a7:o.op<;>simp only[a7,xQ,tl,yV,vn,lF,uM,pH,qH,ml,uP,wx,nV]at h ⊢
 case move x=>cases h;exact⟨_,_,rfl,.inl rfl,hρ x⟩
 case «assign» x=>cases h;exact⟨_,_,rfl,.inl rfl,hρ x⟩
 case pick c a b=>
  split at h
  ·rename_i t hc;cases h;have a8:ρc c=.bool t:=by have:=hρ c;rw[hc]at this;exact this
   refine⟨_,if t then ρc a else ρc b,?_,.inl rfl,BO (hρ a) (hρ b)⟩;simp[a8,asBool]
  ·cases h
 case alloc t=>
  split at h
  ·rename_i z I;split at h
   ·rename_i h1;cases h;exact Ab D j E I h1
   ·cases h
  ·cases h
 case box t x=>
  split at h
  ·rename_i h1;cases h;exact Dh D j E (hρ x) h1
  ·cases h
 case build t parts=>
  split at h
  ·rename_i z Z I hu;split at h
   ·rename_i pl b0;split at h
    ·rename_i h1;split at h
     ·rename_i cs J;cases h;obtain⟨u,r1,r2⟩:=uB (w:=w) (π:=π) hρ hu I b0 h1 J;exact dx.value r1 r2
     ·cases h
    ·cases h
   ·cases h
  ·rename_i z len e I hu;split at h
   ·rename_i n hn;split at h
    ·rename_i h1;split at h
     ·rename_i cs J;cases h;obtain⟨u,r1,r2⟩:=uL (w:=w) (π:=π) hρ hu I hn h1 J;exact dx.value r1 r2
     ·cases h
    ·cases h
   ·cases h
  ·cases h
 case buildSlice t len parts=>
  split at h
  ·rename_i e hu;split at h
   ·rename_i n z hn I;split at h
    ·rename_i hc;simp only[Bool.and_eq_true,decide_eq_true_eq]at hc;split at h
     ·rename_i cs J;cases h;exact wu D j E hρ hu hn I hc.1.1 hc.1.2 hc.2 J
     ·cases h
    ·cases h
   ·cases h
  ·cases h
 case load t a=>
  refine ky h fun A C=>?_
  obtain⟨u,r1,r2⟩:=wE D (hρ a) C;exact dx.value r1 r2
 case store t a x=>
  split at h
  ·rename_i H' b1;cases h;obtain⟨w',r1,r2,r3⟩:=zO D (hρ a) (hρ x) b1;exact⟨.skip,undef,w',π,by simp[r1],.inr ⟨rfl,rfl⟩,r2,r3,trivial,fun _ _=>rfl⟩
  ·cases h
 case nilCheck x=>
  have N:=hρ x;split at h
  ·rename_i b off O;cases h;rw[O]at N;have R:=N;obtain⟨p,_,hp⟩:=N;refine⟨_,ρc x,?_,.inl rfl,R⟩;rw[hp];rfl
  ·rename_i cs off O;cases h;rw[O]at N;have R:=N;obtain⟨b,o,hp,_⟩:=N;refine⟨_,ρc x,?_,.inl rfl,R⟩;rw[hp];rfl
  ·rename_i f a c O;cases h;rw[O]at N;have R:=N;obtain⟨Z,cs,hp,_⟩:=N;refine⟨_,ρc x,?_,.inl rfl,R⟩;rw[hp];rfl
  ·cases h
 case binOp op t x y yt=>
  refine ky h fun A C=>?_
  obtain⟨u,r1,r2⟩:=zV (P:=P) (hρ x) (hρ y) C;exact dx.value r1 r2
 case unOp op t x=>exact xO (hρ x) (fun a b e O=>by subst e;exact ij O w) h
 case convert s d x=>
  split at h
  ·rename_i v hv;cases h;exact dx.value (Ac (P:=P) (w:=w) (hρ x) hv) rfl
  ·exact xO (hρ x) (fun a b e O=>by subst e;exact ij O w) h
 case makeFunc fn Z cs=>
  cases fn<;>simp only at h
  case func f=>
   cases h;refine dx.value (v:=.func (.func f) (Z.map ρc) (cs.map ρc)) rfl ⟨Z.map ρc,cs.map ρc,rfl,?_,?_⟩
   ·rw[Array.toList_map];exact uZ hρ _
   ·rw[Array.toList_map];exact uZ hρ _
  all_goals cases h
 case makeSlice t l c=>
  split at h
  ·rename_i e kl il kc ic hu hl hc;split at h
   ·rename_i n by_ z hn O I;split at h
    ·rename_i S;simp only[Bool.and_eq_true,decide_eq_true_eq]at S;obtain⟨⟨⟨⟨⟨⟨U,Y⟩,k3⟩,k4⟩,k5⟩,k6⟩,k7⟩:=S;cases h;have e1:=sn (hρ l) hl;have e2:=sn (hρ c) hc;rw[e1,e2];exact wS D j E hu hn O I U Y k3 k4 k5 k6 k7
    ·cases h
   ·cases h
  ·cases h
 case slice t x lo hi mx=>
  cases mx with
  |some m=>simp only at h;cases h
  |none=>
   have ho:∀y:Option Operand,FW w (aY out π H) π (y.map ρ) (y.map ρc):=by
    intro y;cases y with
    |none=>trivial
    |some y=>exact hρ y
   simp only at h;split at h
   ·rename_i s hs;have N:ρc x=.string s:=by have:=hρ x;rw[hs]at this;exact this
    have opt:∀(y:Option Operand) (z:Option Value),(match y with|none=>some none|some a=>(toV (ρ a)).map some)=some z->y.map ρc=z:=by
     intro y z I;cases y with
     |none=>cases I;rfl
     |some a=>
      simp only at I;cases ha:toV (ρ a)with
      |none=>simp[ha]at I
      |some b=>simp[ha]at I;subst I;simp[kq _ _ _ (hρ a) ha]
    split at h
    ·rename_i l hh hl b2;have e1:=opt lo l hl;have e2:=opt hi hh b2;split at h
     ·rename_i r' b3;cases h;rw[N];simp only[Option.map_none];rw[e1,e2];exact dx.value (ij b3 w) rfl
     ·cases h
    ·cases h
   ·refine ky h fun A C=>?_
    obtain⟨u,r1,r2⟩:=zw D (hρ x) (ho lo) (ho hi) C;exact dx.value r1 r2
 case fieldAddr s x f=>
  refine ky h fun A C=>?_
  obtain⟨u,r1,r2⟩:=vE (P:=P) (w:=w) (hρ x) C;exact dx.value r1 r2
 case field s x f=>
  refine ky h fun A C=>?_
  obtain⟨u,r1,r2⟩:=zo (P:=P) (w:=w) (hρ x) C;exact dx.value r1 r2
 case indexAddr t x ix=>
  refine ky h fun A C=>?_
  obtain⟨u,r1,r2⟩:=vN (P:=P) (w:=w) (hρ x) (hρ ix) C;exact dx.value r1 r2
 case index t x ix=>
  refine ky h fun A C=>?_
  obtain⟨u,r1,r2⟩:=zy (P:=P) (w:=w) (hρ x) (hρ ix) C;exact dx.value r1 r2
 case extract t ix=>
  split at h
  ·rename_i vs b4;refine ky h fun A C=>?_
   have ht:=hρ t;rw[b4]at ht;obtain⟨us,hu,hr⟩:=ht;obtain⟨u,r1,r2⟩:=RvL.get _ _ _ _ hr C;rw[hu];exact dx.value (v:=u) (by simp[Instr.extract,<-Array.getElem?_toList,r1]) r2
  ·cases h
 case makeMap t r=>
  exact wU D j E (by cases r with|none=>trivial|some y=>exact hρ y) h
 case lookup t x ix ok=>
  refine ky h fun A C=>?_
  obtain⟨u,r1,r2⟩:=yu D (hρ x) (hρ ix) C;exact dx.value r1 r2
 case mapUpdate t m k x=>exact so D (hρ m) (hρ k) (hρ x) h
 case insert t m k x=>exact so D (hρ m) (hρ k) (hρ x) h
 case mapEntry t m k=>exact yx D (hρ m) (hρ k) h
 case entryStore t m s x=>exact uz D (hρ m) (hρ s) (hρ x) h
 case range t x=>exact yp D j E (hρ x) h
 case entry it=>exact va D (hρ it) h
 case call c=>
  cases T:c.callee<;>simp only[T]at h
  case value f=>
   split at h
   ·rename_i g Z cs hf;split at h
    ·rename_i hc;cases h;have a1:=hρ f;rw[hf]at a1;obtain⟨a,b,e1,h1,h2⟩:=a1;refine⟨a++c.args.map ρc++b,?_,?_⟩
     ·simp[resolve,T,e1,Deferred.ofValue,invoke,zB a6 hc]
     ·simp only[Array.toList_append,Array.toList_map];exact RvL.append _ _ _ _ (RvL.append _ _ _ _ h1 (uZ hρ _)) h2
    ·cases h
   ·cases h
  case builtin b=>
   have ea:(c.args.toList.map ρc).toArray=c.args.map ρc:=by apply Array.ext';simp
   have e:∃consts,∀w,(do let d<-resolve ρc c o.type;invoke d.target d.args:Sem Next).run P w=(builtin b c.argTypes o.type consts (c.args.toList.map ρc).toArray).run P w:=
    ⟨_,fun w=>by rw[ea];simp only[resolve,T,invoke,Sem.run_bind,Sem.run_pure,Result.andThen_ok];rfl⟩
   obtain⟨consts,e⟩:=e;have:=xG (consts:=consts) D j E (uZ hρ c.args.toList) h;cases r with
   |pure A=>obtain⟨nx,y,U,Y⟩:=this;exact⟨nx,y,by rw[e];exact U,Y⟩
   |eff A H'=>obtain⟨nx,y,w',π',U,Y⟩:=this;exact⟨nx,y,w',π',by rw[e];exact U,Y⟩
   |call f as=>obtain⟨y,U,Y⟩:=this;exact⟨y,by rw[e];exact U,Y⟩
  case invoke=>cases h
 all_goals cases h
end
end Go.Eng

