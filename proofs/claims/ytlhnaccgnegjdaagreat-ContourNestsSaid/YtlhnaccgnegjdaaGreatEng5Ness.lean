import Derived.Test.YtlhnaccgnegjdaaGreatEng3Ness
import Derived.Laws.Cover3
import Derived.Laws.Pointers
import Derived.MapKept
set_option linter.all false
namespace Go.Eng
open Go Go.RowKit
variable[Dr]
def cz(P:Program)(out:Nat->Prop)(B:Nat->Prop)(w:World)(π:List (Option PB))(H:List Blk)(s:Sem Next):bj->Prop
 |.pure A=>∃m v,s.run P w=.ok m w/\(m=.value v\/m=.skip/\v=undef)/\Rv w (aG out π H) π A v
 |.eff A ws=>∃m v w' π',s.run P w=.ok m w'/\(m=.value v\/m=.skip/\v=undef)/\Ext B w w' (aG out π H) (aG out π' (aQ H ws)) π π'/\Inv out B w' π' (aQ H ws)/\Rv w' (aG out π' (aQ H ws)) π' A v/\∀j,(∀b,(j,b)∉ws)->π'[j]?=π[j]?
 |.call f args=>∃vs,s.run P w=.ok (.enter f vs) w/\RvL w (aG out π H) π args vs.toList
section
variable{P:Program}{out:Nat->Prop}{B:Nat->Prop}{w:World}{π:List (Option PB)}{H:List Blk}
theorem cz.value{s:Sem Value}{A:AV}{v:Value}(h:s.run P w=.ok v w)(j:Rv w (aG out π H) π A v):cz P out B w π H (do pure (.value (<-s))) (.pure A):=
 ⟨.value v,v,by simp[h],.inl rfl,j⟩
theorem jJ{s:Sem Next}{o:Option AV}{r:bj}(h:bj.ofP o=some r)(hs:∀A,o=some A->cz P out B w π H s (.pure A)):cz P out B w π H s r:=by
 cases o with
 |none=>cases h
 |some A=>cases h;exact hs A rfl
theorem ym{A:AV}{v:Value}{f:Value->Option Value}{s:Sem Value}{r:bj}(j:Rv w (aG out π H) π A v)(m:∀x y,v=x->f x=some y->s.run P w=.ok y w)(h:Ft f A=some r):
  cz P out B w π H (do pure (.value (<-s))) r:=by
 unfold Ft at h;split at h
 ·rename_i x hx;split at h
  ·rename_i y p;cases h;exact cz.value (m x y (jG A v x j hx) p) rfl
  ·cases h
 ·cases h
theorem Cp{t:Bool}{A j:AV}{a b:Value}(m:Rv w (aG out π H) π A a)(p:Rv w (aG out π H) π j b):Rv w (aG out π H) π (E5 t A j) (if t then a else b):=by
 unfold E5;split
 ·cases m;cases p;cases t<;>rfl
 ·cases t
  ·exact p
  ·exact m
theorem kh{mu:Nat->Prop}{A:AV}{v:Value}{n:Int}(h:Rv w mu π A v)(j:BU A=some n):∃k,v=.int k n:=by
 unfold BU at j;split at j
 ·cases j;exact⟨_,h⟩
 ·cases j
theorem sy{mu:Nat->Prop}{A:AV}{v:Value}{k:IntKind}{n:Int}(h:Rv w mu π A v)(j:A7 A=some (k,n)):v=.int k n:=by
 unfold A7 at j;split at j
 ·cases j;exact h
 ·cases j
theorem wu{mu:Nat->Prop}{A j:AV}{v:Value}{n:Nat}(h:Rv w mu π A v)(hp:Dg n A=some j):∃m:Addr,v=.pointer (some m)/\Rv w mu π j (.pointer (some (m.add n))):=by
 unfold Dg at hp;split at hp
 ·cases hp;obtain⟨p,h1,rfl⟩:=h;exact⟨_,rfl,p,h1,by rw[gi,Nat.add_assoc]⟩
 ·cases hp;obtain⟨b,o,rfl,h2,q⟩:=h;exact⟨_,rfl,b,o,by rw[gi,Nat.add_assoc],h2,q⟩
 ·cases hp
theorem kd{mu:Nat->Prop}{t:TypeId}{cs:List AV}{vs:Array Value}{off:Nat}{A:AV}(h:RvL w mu π cs vs.toList)(hp:rq P t cs off=some A):
  ∃v,(part t vs off).run P w=.ok v w/\Rv w mu π A v:=by
 unfold rq at hp;split at hp
 ·rename_i ha;split at hp
  ·rename_i n j;cases hp;refine⟨.agg (vs.extract off (off+n)),by simp[part,w8 ha,bK j],_,rfl,?_⟩;have:=RvL.take n _ _ (RvL.drop off _ _ h);rw[Array.toList_extract,List.extract_eq_take_drop];rwa[show off+n-off=n by omega]
  ·cases hp
 ·rename_i ha;obtain⟨v,h1,h2⟩:=RvL.get _ _ _ _ h hp;exact⟨v,by simp[part,w8 ha,<-Array.getElem?_toList,h1],h2⟩
 ·cases hp
theorem zR{s:TypeId}{x:AV}{v:Value}{f:Nat}{A:AV}{mu:Nat->Prop}(hx:Rv w mu π x v)(h:BQ P s x f=some A):∃u,(Instr.field s v f).run P w=.ok u w/\Rv w mu π A u:=by
 unfold BQ at h;split at h
 ·rename_i p cs hu;split at h
  ·rename_i fd j;obtain⟨vs,rfl,m⟩:=hx;obtain⟨u,h1,h2⟩:=kd m h;exact⟨u,by simp[Instr.field,run_underlying hu,j,asAgg,h1],h2⟩
  ·cases h
 ·rename_i p a hu;split at h
  ·rename_i fd j;cases hx;obtain⟨u,h1,h2⟩:=kd (fY a.toList) h;exact⟨u,by simp[Instr.field,run_underlying hu,j,asAgg,h1],h2⟩
  ·cases h
 ·cases h
theorem zY{t:TypeId}{x p:AV}{v m:Value}{A:AV}{mu:Nat->Prop}(hx:Rv w mu π x v)(q:Rv w mu π p m)(h:BT P t x p=some A):∃u,(Instr.index t v m).run P w=.ok u w/\Rv w mu π A u:=by
 unfold BT at h;split at h
 ·rename_i len e cs i hu he;split at h
  ·rename_i n z hb;simp only[Bool.and_eq_true,decide_eq_true_eq]at hb;obtain⟨vs,rfl,C⟩:=hx;obtain⟨k,rfl⟩:=kh q he;obtain⟨u,h1,h2⟩:=kd C h;exact⟨u,by simp[Instr.index,asIntOf,run_underlying hu,hb,bK z,h1],h2⟩
  ·cases h
 ·rename_i len e a i hu he;split at h
  ·rename_i n z hb;simp only[Bool.and_eq_true,decide_eq_true_eq]at hb;cases hx;obtain⟨k,rfl⟩:=kh q he;obtain⟨u,h1,h2⟩:=kd (fY a.toList) h;exact⟨u,by simp[Instr.index,asIntOf,run_underlying hu,hb,bK z,h1],h2⟩
  ·cases h
 ·rename_i s i hu he;have D:v=s:=hx;subst D;split at h
  ·rename_i j E;have:=jG p m j q E;subst this;cases hp:iS P (Instr.index t v m)with
   |none=>simp[hp]at h
   |some u=>simp[hp]at h;subst h;exact⟨u,gy hp w,rfl⟩
  ·cases h
 ·cases h
theorem vW{s:TypeId}{x:AV}{v:Value}{f:Nat}{A:AV}{mu:Nat->Prop}(hx:Rv w mu π x v)(h:tE P s x f=some A):∃u,(Instr.fieldAt s v f).run P w=.ok u w/\Rv w mu π A u:=by
 unfold tE at h;split at h
 ·rename_i z hu;split at h
  ·rename_i fd j;split at h
   ·cases h
   ·rename_i n m q;obtain⟨C,rfl,h2⟩:=wu hx h;refine⟨_,?_,h2⟩;have p:¬n=0:=fun e=>m e
    simp[Instr.fieldAt,run_underlying hu,j,Instr.sureAddr,fieldPlace,bK q,p]
   ·cases h
  ·cases h
 ·cases h
theorem vi{t:TypeId}{x z:AV}{v C:Value}{A:AV}{mu:Nat->Prop}(hx:Rv w mu π x v)(D:Rv w mu π z C)(h:tQ P t x z=some A):∃u,(Instr.indexAt t v C).run P w=.ok u w/\Rv w mu π A u:=by
 unfold tQ at h;split at h
 ·rename_i e i hu he;obtain⟨k,rfl⟩:=kh D he;split at h
  ·rename_i n nl cs len j;split at h
   ·rename_i hb;simp only[Bool.and_eq_true,decide_eq_true_eq]at hb;cases h;rcases hx with⟨_,E,_,_⟩|⟨b,o,cap,rfl,_,m,I⟩|⟨E,_⟩
    rotate_left 2
    ·omega
    ·omega
    ·exact⟨_,by simp[Instr.indexAt,asIntOf,run_underlying hu,hb,bK j];rfl,b,o,by rw[gi],m,I⟩
   ·cases h
  ·rename_i n b off len es j;split at h
   ·rename_i hb;simp only[Bool.and_eq_true,decide_eq_true_eq]at hb;cases h;rcases hx with⟨E,_⟩|⟨p,a,cap,h1,rfl,h2,J,m⟩
    ·omega
    have q:=(m (by omega)).1;exact⟨_,by simp[Instr.indexAt,asIntOf,run_underlying hu,hb,bK j];rfl,p,h1,by rw[q,gi,Nat.add_assoc]⟩
   ·cases h
  ·cases h
 ·rename_i len e i hu he;obtain⟨k,rfl⟩:=kh D he;split at h
  ·rename_i n j;split at h
   ·rename_i hb;simp only[Bool.and_eq_true,decide_eq_true_eq]at hb;obtain⟨M,rfl,h2⟩:=wu hx h;exact⟨_,by simp[Instr.indexAt,asIntOf,run_underlying hu,Instr.sureAddr,hb,bK j],h2⟩
   ·cases h
  ·cases h
 ·cases h
theorem dM{mu:Nat->Prop}{isS:Bool}{len cap:Nat}{D C:Option AV}{p j:Option Value}{l h:Nat}(hle:len<=cap)
  (q:match D,p with|none,none=>True|some A,some v=>Rv w mu π A v|_,_=>False) (m:match C,j with|none,none=>True|some A,some v=>Rv w mu π A v|_,_=>False)
  (hb:qH len D C=some (l,h)):(Instr.sliceBounds isS len cap p j none).run P w=.ok (l,h,cap) w/\l<=h/\h<=len:=by
 unfold qH at hb;split at hb
 ·rename_i M z e1 e2;split at hb
  ·rename_i hd;simp only[Bool.and_eq_true,decide_eq_true_eq]at hd;cases hb;obtain⟨⟨d1,d2⟩,d3⟩:=hd;refine⟨?_,by omega,by omega⟩;cases D with
   |none=>
    cases p with
    |some _=>exact q.elim
    |none=>
     cases e1;cases C with
     |none=>
      cases j with
      |some _=>exact m.elim
      |none=>cases e2;simp[Instr.sliceBounds]
     |some A=>
      cases j with
      |none=>exact m.elim
      |some v=>
       obtain⟨k,rfl⟩:=kh m e2;have:z<=(cap:Int):=by omega
       simp[Instr.sliceBounds,Instr.sliceBound,asIntOf,this,d2]
   |some A=>
    cases p with
    |none=>exact q.elim
    |some v=>
     obtain⟨k,rfl⟩:=kh q e1;cases C with
     |none=>
      cases j with
      |some _=>exact m.elim
      |none=>cases e2;simp[Instr.sliceBounds,Instr.sliceBound,asIntOf,d1,d2]
     |some A=>
      cases j with
      |none=>exact m.elim
      |some v=>
       obtain⟨k,rfl⟩:=kh m e2;have I:z<=(cap:Int):=by omega
       have E:0<=z:=by omega
       have J:(z.toNat:Int)=z:=Int.toNat_of_nonneg E;simp only[Instr.sliceBounds,Instr.sliceBound,asIntOf,Sem.run_bind,Sem.run_pure,Result.andThen_ok,Sem.run_ite,E,I,and_self,if_true,d1,J,d2]
  ·cases hb
 ·cases hb
end
section
variable{P:Program}{out:Nat->Prop}{B:Nat->Prop}{w:World}{π:List (Option PB)}{H:List Blk}
def H3(w:World)(mu:Nat->Prop)(π:List (Option PB))(m:Option AV)(j:Option Value):Prop:=
 match m,j with|none,none=>True|some A,some v=>Rv w mu π A v|_,_=>False
theorem zJ(hI:Inv out B w π H){t:TypeId}{x:AV}{v:Value}{Y hi:Option AV}{I J:Option Value}{A:AV}(hx:Rv w (aG out π H) π x v)
  (q:H3 w (aG out π H) π Y I) (z:H3 w (aG out π H) π hi J) (h:vI P H t x Y hi=some A):∃u,(Instr.sliceAt t v I J none).run P w=.ok u w/\Rv w (aG out π H) π A u:=by
 unfold vI at h;split at h
 ·rename_i e hu;split at h
  ·rename_i n nl cs len C;split at h
   ·rename_i l m hb;cases h;rcases hx with⟨rfl,rfl,rfl,rfl⟩|⟨b,o,cap,rfl,hle,M,O⟩|⟨rfl,rfl,a,cap,rfl⟩
    ·obtain⟨r,r1,r2⟩:=dM (P:=P) (w:=w) (isS:=true) (Nat.le_refl 0) q z hb;have e1:m=0:=by omega
     have e2:l=0:=by omega
     subst e1;subst e2;exact⟨.slice none 0 0,by simp[Instr.sliceAt,Instr.slice,run_underlying hu,r,bK C],.inl ⟨rfl,rfl,by simp,rfl⟩⟩
    ·obtain⟨r,r1,r2⟩:=dM (P:=P) (w:=w) (isS:=true) hle q z hb;by_cases hc:cap=l
     ·have e1:m-l=0:=by omega
      refine⟨.slice (some ⟨b,o,none⟩) (m-l) (cap-l),by simp[Instr.sliceAt,Instr.slice,run_underlying hu,r,bK C];exact fun h=>(h hc).elim,.inr (.inl ⟨b,o,cap-l,rfl,by omega,?_,?_⟩)⟩
      ·intro j;simp[e1]at j
      ·simp[e1,RvC]
     ·refine⟨.slice (some ⟨b,o+l*n,none⟩) (m-l) (cap-l),by simp[Instr.sliceAt,Instr.slice,run_underlying hu,r,bK C,hc,gi],.inr (.inl ⟨b,o+l*n,cap-l,rfl,by omega,?_,?_⟩)⟩
      ·intro j;exact M (by intro e0;subst e0;simp at j)
      ·exact RvC.take _ _ _ _ (RvC.drop _ _ _ _ O)
    ·obtain⟨r,r1,r2⟩:=dM (P:=P) (w:=w) (isS:=true) (Nat.zero_le cap) q z hb;have e1:m=0:=by omega
     have e2:l=0:=by omega
     subst e1;subst e2;by_cases hc:cap=0
     ·exact⟨.slice (some a) 0 0,by subst hc;simp[Instr.sliceAt,Instr.slice,run_underlying hu,r,bK C],.inr (.inr ⟨rfl,by simp,a,0,rfl⟩)⟩
     ·exact⟨.slice (some (a.add (0*n))) 0 cap,by simp[Instr.sliceAt,Instr.slice,run_underlying hu,r,bK C,hc],.inr (.inr ⟨rfl,by simp,_,cap,rfl⟩)⟩
   ·cases h
  ·rename_i n b off len es C;split at h
   ·rename_i l m hb T;cases h;obtain rfl:es=n:=by simpa using T
    rcases hx with⟨rfl,rfl⟩|⟨p,a,cap,h1,rfl,h2,U,M⟩
    ·obtain⟨r,r1,r2⟩:=dM (P:=P) (w:=w) (isS:=true) (Nat.le_refl 0) q z hb;have e1:m=0:=by omega
     have e2:l=0:=by omega
     subst e1;subst e2;exact⟨.slice none 0 0,by simp[Instr.sliceAt,Instr.slice,run_underlying hu,r,bK C],.inl ⟨rfl,rfl⟩⟩
    obtain⟨r,r1,r2⟩:=dM (P:=P) (w:=w) (isS:=true) h2 q z hb;by_cases hc:cap=l
    ·refine⟨.slice (some a) (m-l) (cap-l),by simp[Instr.sliceAt,Instr.slice,run_underlying hu,r,bK C];exact fun h=>(h hc).elim,.inr ⟨p,a,cap-l,h1,rfl,by omega,U,by omega⟩⟩
    ·have N:=M (by omega);refine⟨.slice (some (a.add (l*es))) (m-l) (cap-l),by simp[Instr.sliceAt,Instr.slice,run_underlying hu,r,bK C,hc],.inr ⟨p,_,cap-l,h1,rfl,by omega,by rw[N.1,gi],fun _=>⟨?_,?_⟩⟩⟩
     ·rw[N.1,gi,Nat.add_assoc]
     ·have e0:(cap-l)*es+l*es=cap*es:=by rw[<-Nat.add_mul];congr 1;omega
      omega
   ·cases h
  ·rename_i n C;split at h
   ·rename_i lh hb;cases h;obtain rfl:v=.slice none 0 0:=hx;obtain⟨l,m⟩:=lh;obtain⟨r,r1,r2⟩:=dM (P:=P) (w:=w) (isS:=true) (Nat.le_refl 0) q z hb;have e1:m=0:=by omega
    have e2:l=0:=by omega
    subst e1;subst e2;exact⟨.slice none 0 0,by simp[Instr.sliceAt,Instr.slice,run_underlying hu,r,bK C],rfl⟩
   ·cases h
  ·cases h
 ·rename_i len e hu;split at h
  ·rename_i n b off C;split at h
   ·rename_i l m cs hb hH;split at h
    ·rename_i D;simp only[Bool.and_eq_true,decide_eq_true_eq]at D;cases h;obtain⟨p,h1,rfl⟩:=hx;obtain⟨r,r1,r2⟩:=dM (P:=P) (w:=w) (isS:=false) (Nat.le_refl len) q z hb;obtain⟨⟨c,e',E,a0⟩,hC⟩:=hI.ok b _ p hH h1;by_cases hc:len=l
     ·refine⟨.slice (some ⟨p.blk,p.off+off,none⟩) (m-l) (len-l),by simp[Instr.sliceAt,run_underlying hu,Instr.sureAddr,r,bK C];exact fun h=>(h hc).elim,.inr ⟨p,_,len-l,h1,rfl,by omega,rfl,by omega⟩⟩
     ·refine⟨.slice (some ⟨p.blk,p.off+off+l*n,none⟩) (m-l) (len-l),by simp[Instr.sliceAt,run_underlying hu,Instr.sureAddr,r,bK C,hc,gi],.inr ⟨p,_,len-l,h1,rfl,by omega,rfl,fun _=>⟨by rw[Nat.add_assoc],?_⟩⟩⟩;have j:cs≠[]:=by
       intro e0;subst e0;have:0<len*n:=Nat.mul_pos (by omega) D.2;simp at D;omega
      have a1:=RvC.bound hC E j;have e0:(len-l)*n+l*n=len*n:=by rw[<-Nat.add_mul];congr 1;omega
      omega
    ·cases h
   ·cases h
  ·rename_i n cs off C;split at h
   ·rename_i l m hb;cases h;obtain⟨b,o,rfl,M,O⟩:=hx;obtain⟨r,r1,r2⟩:=dM (P:=P) (w:=w) (isS:=false) (Nat.le_refl len) q z hb;by_cases hc:len=l
    ·have e1:m-l=0:=by omega
     refine⟨.slice (some ⟨b,o+off,none⟩) (m-l) (len-l),by simp[Instr.sliceAt,run_underlying hu,Instr.sureAddr,r,bK C];exact fun h=>(h hc).elim,.inr (.inl ⟨b,o+off,len-l,rfl,by omega,?_,?_⟩)⟩
     ·intro j;simp[e1]at j
     ·simp[e1,RvC]
    ·refine⟨.slice (some ⟨b,o+off+l*n,none⟩) (m-l) (len-l),by simp[Instr.sliceAt,run_underlying hu,Instr.sureAddr,r,bK C,hc,gi],.inr (.inl ⟨b,o+off+l*n,len-l,rfl,by omega,?_,?_⟩)⟩
     ·intro j;exact M (by intro e0;subst e0;simp at j)
     ·rw[Nat.add_assoc];exact RvC.take _ _ _ _ (RvC.drop _ _ _ _ O)
   ·cases h
  ·cases h
 ·cases h
theorem uH{mu:Nat->Prop}{t:TypeId}{A:AV}{v x:Value}(j:Rv w mu π A v)(h:Ak P t A x=true):
  (binOp .eql t v x).run P w=.ok (.bool false) w/\(binOp .neq t v x).run P w=.ok (.bool true) w/\∀op a b,(eqGuard op t a b v x).run P w=.ok () w:=by
 unfold Ak at h;split at h
 ·rename_i e nl cs len hu;rcases j with⟨m,h1,_⟩|⟨b,o,cap,rfl,_⟩|⟨_,_,a,cap,rfl⟩
  ·subst m;subst h1;simp at h
  ·have he:=run_equal_slice_nil (P:=P) w t e (some ⟨b,o,none⟩) len cap hu;exact⟨by simp[binOp,he],by simp[binOp,he],fun op a b=>by cases op<;>simp[eqGuard]⟩
  ·have he:=run_equal_slice_nil (P:=P) w t e (some a) 0 cap hu;exact⟨by simp[binOp,he],by simp[binOp,he],fun op a b=>by cases op<;>simp[eqGuard]⟩
 ·rename_i e b off len es hu;rcases j with⟨rfl,_⟩|⟨p,a,cap,_,rfl,_⟩
  ·simp at h
  have he:=run_equal_slice_nil (P:=P) w t e (some a) len cap hu;exact⟨by simp[binOp,he],by simp[binOp,he],fun op a b=>by cases op<;>simp[eqGuard]⟩
 ·rename_i e b off hu;obtain⟨p,_,rfl⟩:=j;have he:=run_equal_pointer_nil (P:=P) w t (some ⟨p.blk,p.off+off,none⟩) (by simp[Program.pointee,hu]);exact⟨by simp[binOp,he],by simp[binOp,he],fun op a b=>by cases op<;>simp[eqGuard]⟩
 ·rename_i e cs off hu;obtain⟨b,o,rfl,_⟩:=j;have he:=run_equal_pointer_nil (P:=P) w t (some ⟨b,o+off,none⟩) (by simp[Program.pointee,hu]);exact⟨by simp[binOp,he],by simp[binOp,he],fun op a b=>by cases op<;>simp[eqGuard]⟩
 ·cases h
theorem pK{mu:Nat->Prop}{op:BinOp}{t:TypeId}{x y:Operand}{a b:AV}{m j:Value}{A:AV}(ha:Rv w mu π a m)(hb:Rv w mu π b j)(h:uJ P op t x y a b=some A):
  ∃u,(do eqGuard op t x y m j;binOp op t m j:Sem Value).run P w=.ok u w/\Rv w mu π A u:=by
 unfold uJ at h;split at h
 ·rename_i u v hu p;have e1:=jG a m u ha hu;have e2:=jG b j v hb p;subst e1;subst e2;split at h
  ·rename_i r C;cases h;exact⟨r,gy C w,rfl⟩
  ·cases h
 ·rename_i v hu p;have e2:=jG b j v hb p;subst e2;split at h
  ·rename_i q;cases h;obtain⟨h1,_,z⟩:=uH (P:=P) ha q;exact⟨_,by simp[h1,z],rfl⟩
  ·rename_i q;cases h;obtain⟨_,h1,z⟩:=uH (P:=P) ha q;exact⟨_,by simp[h1,z],rfl⟩
  ·cases h
 ·cases h
theorem kb{mu:Nat->Prop}{A:AV}{v:Value}{cs:List AV}(h:Rv w mu π A v)(hc:yC A=some cs):∃vs:Array Value,v=.agg vs/\RvL w mu π cs vs.toList:=by
 unfold yC at hc;split at hc
 ·cases hc;exact h
 ·cases hc;cases h;exact⟨_,rfl,fY _⟩
 ·cases hc
theorem tT{mu:Nat->Prop}{D:Nat}{f:TypeId->AV->AV->Option Bool}(q:∀t a b r m p,f t a b=some r->Rv w mu π a m->Rv w mu π b p->(Op.equalIn D t m p).run P w=.ok r w){xs ys:List AV}{vs us:Array Value}(hx:RvL w mu π xs vs.toList)(z:RvL w mu π ys us.toList):
  ∀(j:List Field) (r:Bool),Bl P f xs ys j=some r->(Op.eqFields D vs us j).run P w=.ok r w
 |[],r,h=>by cases h;simp[Op.eqFields]
 |g::j,r,h=>by
  simp only[Bl]at h;simp only[Op.eqFields];split at h
  ·rename_i C;rw[if_neg (by simpa using C)];exact tT q hx z j r h
  ·rename_i C;rw[if_pos (by simpa using C)];split at h
   ·rename_i a b ha hb;obtain⟨m,E,I⟩:=kd hx ha;obtain⟨p,J,b2⟩:=kd z hb;split at h
    ·rename_i r0 s M hs;cases h;have N:=tT q hx z j s hs;simp only[Sem.run_bind,E,J,Result.andThen_ok,q _ a b r0 m p M I b2];cases r0<;>simp[N]
    ·cases h
   ·cases h
theorem xT{mu:Nat->Prop}{z:Nat}{e:TypeId}{f:AV->AV->Option Bool}(C:∀a b r p q,f a b=some r->Rv w mu π a p->Rv w mu π b q->(Op.equalIn z e p q).run P w=.ok r w){n:Nat}{xs ys:List AV}{vs us:Array Value}(hx:RvL w mu π xs vs.toList)(D:RvL w mu π ys us.toList):
  ∀(m i:Nat) (r:Bool),Ci P f e n xs ys m i=some r->
   ((forIn (List.range' i m) ((none,()):Option Bool×Unit) fun j _=>do
    let a<-part e vs (j*n);let b<-part e us (j*n);let c<-Op.equalIn z e a b
    if (!c)=true then pure (.done (some false,()))else pure (.yield (none,())):Sem (Option Bool×Unit)).run P w)=.ok (if r then(none,())else(some false,())) w
 |0,i,r,h=>by cases h;simp
 |m+1,i,r,h=>by
  simp only[Ci]at h;split at h
  ·rename_i a b ha hb;obtain⟨p,E,I⟩:=kd hx ha;obtain⟨q,J,b2⟩:=kd D hb;split at h
   ·rename_i r0 s M hs;cases h;have N:=xT C hx D m (i+1) s hs;simp only[List.range'_succ,List.forIn_cons,Sem.run_bind,E,J,Result.andThen_ok,C a b r0 p q M I b2];cases r0
    ·simp
    ·simp only[Bool.not_true,Bool.false_eq_true,if_false,Sem.run_pure,Result.andThen_ok,Bool.true_and];exact N
   ·cases h
  ·cases h
theorem oH{mu:Nat->Prop}:∀(d j:Nat) (t:TypeId) (a b:AV) (r:Bool) (m p:Value),d<=j->vP P d t a b=some r->Rv w mu π a m->Rv w mu π b p->(Op.equalIn j t m p).run P w=.ok r w
 |0,_,_,_,_,_,_,_,_,h,_,_=>by cases h
 |d+1,0,_,_,_,_,_,_,hd,_,_,_=>by omega
 |d+1,j+1,t,a,b,r,m,p,hd,h,ha,hb=>by
  simp only[vP]at h;split at h
  ·rename_i E hu;split at h
   ·rename_i k x k' y;split at h
    ·rename_i C;cases h;obtain rfl:=IntKind.oc C;cases ha;cases hb;exact run_equalIn_int w j t _ _ x y hu
    ·cases h
   ·cases h
  ·rename_i hu;split at h
   ·cases h;cases ha;cases hb;exact run_equalIn_bool' w j t _ _ hu
   ·cases h
  ·rename_i D hu;split at h
   ·rename_i xs ys hs hx z;obtain⟨vs,rfl,h1⟩:=kb ha hx;obtain⟨us,rfl,h2⟩:=kb hb z;have q:P.fieldsOf t=D:=by unfold Program.fieldsOf;rw[hu]
    rw[run_equalIn_struct w j t vs us (by rw[q];exact hu) hs,q];exact tT (fun t a b r m p h ha hb=>oH d j t a b r m p (by omega) h ha hb) h1 h2 _ r h
   ·cases h
  ·rename_i n e hu;split at h
   ·rename_i k xs ys hs hx z;obtain⟨vs,rfl,h1⟩:=kb ha hx;obtain⟨us,rfl,h2⟩:=kb hb z;have key:=xT (n:=k) (fun a b r m p h ha hb=>oH d j e a b r m p (by omega) h ha hb) h1 h2 n 0 r h;simp only[Op.equalIn,Sem.run_bind,run_underlying hu,Result.andThen_ok,bK hs,Std.Legacy.Range.forIn_eq_forIn_range',Std.Legacy.Range.size,Nat.sub_zero,Nat.add_sub_cancel,Nat.div_one];rw[key];cases r<;>simp
   ·cases h
  ·cases h
theorem um{mu:Nat->Prop}{op:BinOp}{t:TypeId}{x y:Operand}{a b:AV}{j m:Value}{A:AV}(ha:Rv w mu π a j)(hb:Rv w mu π b m)(h:Ap P op t a b=some A):
  ∃u,(do eqGuard op t x y j m;binOp op t j m:Sem Value).run P w=.ok u w/\Rv w mu π A u:=by
 unfold Ap at h;split at h
 ·rename_i xs ys p hx q;obtain⟨vs,rfl,_⟩:=kb ha hx;obtain⟨us,rfl,_⟩:=kb hb q;split at h
  ·rename_i r z;cases h;refine⟨.bool r,?_,rfl⟩;simp only[Sem.run_bind,run_eqGuard_agg w .eql t x y vs us p,Result.andThen_ok,run_eql_struct,oH 8 10000 t a b r _ _ (by omega) z ha hb]
  ·cases h
 ·rename_i xs ys p hx q;obtain⟨vs,rfl,_⟩:=kb ha hx;obtain⟨us,rfl,_⟩:=kb hb q;split at h
  ·rename_i r z;cases h;refine⟨.bool (!r),?_,rfl⟩;simp only[Sem.run_bind,run_eqGuard_agg w .neq t x y vs us p,Result.andThen_ok,run_neq_struct,oH 8 10000 t a b r _ _ (by omega) z ha hb]
  ·cases h
 ·cases h
theorem zI{mu:Nat->Prop}{op:BinOp}{t:TypeId}{x y:Operand}{a b:AV}{j p:Value}{A:AV}(ha:Rv w mu π a j)(hb:Rv w mu π b p)(h:vB P op t x y a b=some A):
  ∃u,(do eqGuard op t x y j p;binOp op t j p:Sem Value).run P w=.ok u w/\Rv w mu π A u:=by
 unfold vB at h;split at h
 ·rename_i k m k' n;split at h
  ·rename_i q;obtain rfl:=IntKind.oc q;split at h
   ·rename_i r z;cases h;cases ha;cases hb;exact⟨r,Ah z w,rfl⟩
   ·exact pK ha hb h
  ·exact pK ha hb h
 ·exact um ha hb h
 ·exact um ha hb h
 ·exact pK ha hb h
theorem Bw{mu:Nat->Prop}{src dst:TypeId}{a:AV}{v u:Value}(ha:Rv w mu π a v)(h:Fq P src dst a=some u):(convert src dst v).run P w=.ok u w:=by
 unfold Fq at h;split at h
 ·split at h
  ·rename_i d k hs hd;cases h;cases ha;simp[convert,run_underlying hs,run_underlying hd,Conv.intToInt,kO]
  ·cases h
 ·cases h
end
end Go.Eng


namespace Go.Eng
open Go Go.RowKit Go.MapKept
variable[Dr]
section
variable{P:Program}{out:Nat->Prop}{B:Nat->Prop}{w:World}{π:List (Option PB)}{H:List Blk}
theorem vL:∀(l j:List Value),qQ l j=some true->l=j/\(j.zip l).all (fun(x,y)=>Instr.sameBits 9999 x y)=true
 |[],[],_=>⟨rfl,rfl⟩
 |.int k x::l,.int k' y::j,h=>by
  simp only[qQ]at h;split at h
  ·rename_i p m h1;simp only[Option.some.injEq,Bool.and_eq_true,beq_iff_eq]at h;obtain⟨rfl,rfl⟩:=h;obtain rfl:=IntKind.oc m;obtain⟨rfl,h2⟩:=vL l j h1;exact⟨rfl,by rw[List.zip_cons_cons,List.all_cons,h2];simp[Instr.sameBits]⟩
  ·cases h
 |[],_::_,h=>by simp[qQ]at h
theorem BD{k v:Value}(h:kEq k v=some true):Instr.sameBits 10000 v k=true:=by
 unfold kEq at h;split at h
 ·rename_i a b;obtain⟨h1,h2⟩:=vL _ _ h;have hs:b.size=a.size:=by have:=congrArg List.length h1;simpa using this.symm
  show(b.size==a.size&&(b.toList.zip a.toList).all fun(x,y)=>Instr.sameBits 9999 x y)=true;rw[h2,hs];simp
 ·split at h
  ·rename_i hb;have e:=IntKind.oc hb;subst e;simp only[Option.some.injEq,beq_iff_eq]at h;subst h;simp[Instr.sameBits]
  ·cases h
 ·simp only[Option.some.injEq,beq_iff_eq]at h;subst h;simp[Instr.sameBits]
 ·cases h
theorem oB{e:TypeId}(h:pU P e=true):(∃k,P.underlying e=some (.int k))/\fO P e=some 1/\DX P e=some false:=by
 unfold pU at h;split at h
 ·rename_i k n hu hs;obtain rfl:=Nat.eq_of_beq_eq_true h;exact⟨⟨k,hu⟩,hs,by unfold DX;rw[hu]⟩
 ·cases h
theorem BA{e:TypeId}(h:pU P e=true){k k':IntKind}{x y:Int}(j:IntKind.ua k k'=true)(d:Nat):vP P (d+1) e (.at (.int k x)) (.at (.int k' y))=some (x==y):=by
 obtain⟨⟨q,hu⟩,_,_⟩:=oB h;simp only[vP,hu,j]
theorem yS{e:TypeId}(h:pU P e=true)(xs:List Value)(i:Nat):rq P e (xs.map .at) i=(xs[i]?).map .at:=by
 obtain⟨_,_,ha⟩:=oB h;simp only[rq,ha,List.getElem?_map]
theorem drop_cons{xs l:List Value}{x:Value}{i:Nat}(h:xs.drop i=x::l):xs[i]?=some x/\xs.drop (i+1)=l:=by
 have h1:xs[i]?=some x:=by rw[<-List.head?_drop,h];rfl
 refine⟨h1,?_⟩;rw[<-List.drop_drop,h];rfl
theorem Es{xs ys:List Value}:∀(j:List Field) (i:Nat) (r:Bool),wh P j i=true->qQ (xs.drop i) (ys.drop i)=some r->(xs.drop i).length=j.length->Bl P (vP P 1) (xs.map .at) (ys.map .at) j=some r
 |[],i,r,_,h,m=>by
  have:xs.drop i=[]:=List.length_eq_zero_iff.1 m;rw[this]at h;cases p:ys.drop i with
  |nil=>rw[p]at h;simp only[qQ]at h;simp only[Bl];exact h
  |cons y l=>rw[p]at h;simp[qQ]at h
 |f::j,i,r,hw,h,m=>by
  simp only[wh,Bool.and_eq_true]at hw;obtain⟨⟨⟨w1,q⟩,C⟩,D⟩:=hw;have q:=Nat.eq_of_beq_eq_true q;cases hx:xs.drop i with
  |nil=>rw[hx]at m;simp at m
  |cons x l=>
   cases p:ys.drop i with
   |nil=>rw[hx,p]at h;cases x<;>simp[qQ]at h
   |cons y U=>
    obtain⟨x1,x2⟩:=drop_cons hx;obtain⟨E,I⟩:=drop_cons p;rw[hx,p]at h;have z:(xs.drop (i+1)).length=j.length:=by rw[x2];rw[hx]at m;simpa using m
    unfold qQ at h;split at h
    ·rename_i e1 _;cases e1
    ·rename_i k a Y k' b J e1 e2;cases e1;cases e2;split at h
     ·rename_i M N h1;cases h;have O:=Es (xs:=xs) (ys:=ys) j (i+1) M D (by rw[x2,I];exact h1) z;have T:decide (f.name= "_")=false:=by simpa using w1
      simp only[Bl,T,yS C,q,x1,E,Option.map_some,BA C N,O]
     ·cases h
    ·cases h
theorem Er{e:TypeId}(q:pU P e=true){xs ys:List Value}:∀(m i:Nat) (r:Bool),qQ (xs.drop i) (ys.drop i)=some r->(xs.drop i).length=m->Ci P (vP P 1 e) e 1 (xs.map .at) (ys.map .at) m i=some r
 |0,i,r,h,j=>by
  have:xs.drop i=[]:=List.length_eq_zero_iff.1 j;rw[this]at h;cases p:ys.drop i with
  |nil=>rw[p]at h;simp only[qQ]at h;simp only[Ci];exact h
  |cons y l=>rw[p]at h;simp[qQ]at h
 |m+1,i,r,h,j=>by
  cases hx:xs.drop i with
  |nil=>rw[hx]at j;simp at j
  |cons x l=>
   cases p:ys.drop i with
   |nil=>rw[hx,p]at h;cases x<;>simp[qQ]at h
   |cons y N=>
    obtain⟨x1,x2⟩:=drop_cons hx;obtain⟨C,D⟩:=drop_cons p;rw[hx,p]at h;have z:(xs.drop (i+1)).length=m:=by rw[x2];rw[hx]at j;simpa using j
    unfold qQ at h;split at h
    ·rename_i e1 _;cases e1
    ·rename_i k a O k' b E e1 e2;cases e1;cases e2;split at h
     ·rename_i I J h1;cases h;have M:=Er q (xs:=xs) (ys:=ys) m (i+1) I (by rw[x2,D];exact h1) z;simp only[Ci,Nat.mul_one,yS q,x1,C,Option.map_some,BA q J,M]
     ·cases h
    ·cases h
theorem yq{t:TypeId}{a b:Array Value}{r:Bool}(ha:ot P t a=true)(h:qQ a.toList b.toList=some r)(w:World):(Op.equal t (.agg a) (.agg b)).run P w=.ok r w:=by
 have key:vP P 2 t (.at (.agg a)) (.at (.agg b))=some r:=by
  unfold ot at ha;split at ha
  ·rename_i n e hu;simp only[Bool.and_eq_true]at ha;obtain⟨⟨h1,h2⟩,_⟩:=ha;obtain⟨_,hs,_⟩:=oB h1;have h2:=Nat.eq_of_beq_eq_true h2;simp only[vP,hu,hs,yC];exact Er h1 n 0 r (by simpa using h) (by simpa using h2)
  ·rename_i m hu;simp only[Bool.and_eq_true]at ha;obtain⟨⟨⟨h1,h2⟩,_⟩,j⟩:=ha;have h2:=Nat.eq_of_beq_eq_true h2;have j:P.stoodInHeld t=false:=by simpa using j
   simp only[vP,hu,j,yC];exact Es m.toList 0 r h1 (by simpa using h) (by simpa using h2)
  ·cases ha
 exact oH (P:=P) (w:=w) (mu:=fun _=>False) (π:=[]) 2 10000 t _ _ r _ _ (by omega) key rfl rfl
theorem DZ{e:TypeId}(h:pU P e=true)(em:Bool)(n:Nat){k:IntKind}{x:Int}(w:World):(Instr.checkKey em (n+1) e (.int k x)).run P w=.ok () w:=by
 obtain⟨⟨q,hu⟩,_,_⟩:=oB h;simp[Instr.checkKey,run_underlying hu]
theorem yh:∀(l:List Value),ve l=true->∀(i:Nat) (v:Value),l[i]?=some v->∃k x,v=.int k x
 |[],_,i,v,j=>by simp at j
 |.int k x::l,h,i,v,j=>by
  cases i with
  |zero=>simp at j;exact⟨k,x,j.symm⟩
  |succ i=>exact yh l (by simpa [ve]using h) i v (by simpa using j)
theorem Az{e:TypeId}(h:pU P e=true){xs:Array Value}{i:Nat}{v:Value}(hx:xs[i]?=some v)(w:World):(part e xs i).run P w=.ok v w:=by
 obtain⟨⟨q,hu⟩,_,_⟩:=oB h;simp[part,isAgg,run_underlying hu,hx]
theorem BM{t:TypeId}{a:Array Value}(ha:ot P t a=true)(em:Bool)(n:Nat)(w:World)(I:∀(e:TypeId) (k:IntKind) (x:Int),pU P e=true->(Instr.checkKey em n e (.int k x)).run P w=.ok () w):(Instr.checkKey em (n+1) t (.agg a)).run P w=.ok () w:=by
 unfold ot at ha;split at ha
 ·rename_i M e hu;simp only[Bool.and_eq_true]at ha;obtain⟨⟨h1,h2⟩,q⟩:=ha;obtain⟨_,hs,_⟩:=oB h1;have h2:=Nat.eq_of_beq_eq_true h2;have key:∀(m i:Nat),i+m<=a.size->((forIn (List.range' i m) PUnit.unit fun j _=>do
    let s<-sizeOf e;let v<-part e a (j*s)
    Instr.checkKey em n e v
    pure (ForInStep.yield PUnit.unit):Sem PUnit).run P w)=.ok PUnit.unit w:=by
   intro m;induction m with
   |zero=>intro i _;simp
   |succ m z=>
    intro i C;have p:i<a.size:=by omega
    have hx:a[i]?=some a[i]:=Array.getElem?_eq_getElem p;obtain⟨k,x,e1⟩:=yh a.toList q i a[i] (by rw[Array.getElem?_toList];exact hx);simp only[List.range'_succ,List.forIn_cons,Sem.run_bind,bK hs,Result.andThen_ok,Nat.mul_one,Az h1 hx,e1,I e k x h1,Sem.run_pure];exact z (i+1) (by omega)
  have:=key M 0 (by omega);simp only[Instr.checkKey,Sem.run_bind,run_underlying hu,Result.andThen_ok,Std.Legacy.Range.forIn_eq_forIn_range',Std.Legacy.Range.size,Nat.sub_zero,Nat.add_sub_cancel,Nat.div_one,this,Sem.run_pure]
 ·rename_i N hu;simp only[Bool.and_eq_true]at ha;obtain⟨⟨⟨h1,h2⟩,q⟩,_⟩:=ha;have h2:=Nat.eq_of_beq_eq_true h2;have key:∀(l:List Field) (i:Nat),wh P l i=true->i+l.length<=a.size->((forIn l PUnit.unit fun f _=>
    if f.name≠ "_" then do
     let v<-part f.type a f.offset
     Instr.checkKey em n f.type v
     pure (ForInStep.yield PUnit.unit)
    else pure (ForInStep.yield PUnit.unit):Sem PUnit).run P w)=.ok PUnit.unit w:=by
   intro l;induction l with
   |nil=>intro i _ _;simp
   |cons f l z=>
    intro i hw C;simp only[wh,Bool.and_eq_true]at hw;obtain⟨⟨⟨w1,D⟩,J⟩,O⟩:=hw;have D:=Nat.eq_of_beq_eq_true D;have p:i<a.size:=by simp at C;omega
    have hx:a[i]?=some a[i]:=Array.getElem?_eq_getElem p;obtain⟨k,x,e1⟩:=yh a.toList q i a[i] (by rw[Array.getElem?_toList];exact hx);have E:f.name≠ "_" :=by simpa using w1
    simp only[List.forIn_cons,Sem.run_bind,E,ne_eq,not_false_eq_true,if_true,D,Az J hx,Result.andThen_ok,e1,I f.type k x J,Sem.run_pure];exact z (i+1) O (by simp at C;omega)
  have:=key N.toList 0 h1 (by omega);simp only[Instr.checkKey,Sem.run_bind,run_underlying hu,Result.andThen_ok];rw[<-Array.forIn_toList];have e:=congrArg (fun r=>r.andThen fun(a:PUnit) w'=>Sem.run P (pure ()) w') this;simp only[Result.andThen_ok,Sem.run_pure]at e;first|exact this|exact e
 ·cases ha
theorem Cn{t:TypeId}{a:Array Value}(ha:ot P t a=true)(em:Bool)(w:World):(Instr.checkKey em 10000 t (.agg a)).run P w=.ok () w:=BM ha em 9999 w fun e k x h=>DZ h em 9998 w
theorem tv{mu:Nat->Prop}{t:TypeId}{a:Array Value}(ha:ot P t a=true):∀(es:List (Value×AV)) (l:List MapEntry) (i0 j:Nat) (r:Option (Nat×AV)),RvM w mu π j es l->mz (.agg a) es i0=some r->
  (r=none/\(Instr.findAsking t (.agg a) l i0).run P w=.ok none w)\/∃(p:Nat) (e:MapEntry) (A:AV),r=some (i0+p,A)/\(Instr.findAsking t (.agg a) l i0).run P w=.ok (some (i0+p,e.val)) w/\l[p]?=some e/\es[p]?=some (e.key,A)/\e.born=j+p/\Rv w mu π A e.val/\Instr.sameBits 10000 e.key (.agg a)=true
 |[],l,i0,j,r,h,q=>by cases h;cases q;exact .inl ⟨rfl,by simp[Instr.findAsking]⟩
 |(k',A)::es,l,i0,j,r,h,q=>by
  obtain⟨e,C,rfl,rfl,E,I,J⟩:=h;simp only[mz]at q;have z:∀b,kEq (.agg a) e.key=some b->∃c,e.key=.agg c/\qQ a.toList c.toList=some b:=by
   intro b hb;cases M:e.key<;>rw[M]at hb<;>simp only[kEq]at hb;all_goals first|exact⟨_,rfl,hb⟩|cases hb
  split at q
  ·rename_i hb;cases q;obtain⟨c,hc,D⟩:=z _ hb;refine .inr ⟨0,e,A,rfl,?_,rfl,rfl,E,I,BD hb⟩;simp only[Instr.findAsking,hc,Sem.run_bind,yq ha D,Result.andThen_ok,if_true,Sem.run_pure,Nat.add_zero]
  ·rename_i hb;obtain⟨c,hc,D⟩:=z _ hb;have m:(Instr.findAsking t (.agg a) (e::C) i0).run P w=(Instr.findAsking t (.agg a) C (i0+1)).run P w:=by
    simp only[Instr.findAsking,hc,Sem.run_bind,yq ha D,Result.andThen_ok,Bool.false_eq_true,if_false]
   rcases tv ha es C (i0+1) (j+1) r J q with⟨e1,e2⟩|⟨p,N,O,e1,e2,T,U,e5,Y,e7⟩
   ·exact .inl ⟨e1,by rw[m];exact e2⟩
   ·exact .inr ⟨p+1,N,O,by rw[e1];congr 2;omega,by rw[m,e2];congr 3;omega,by simpa using T,by simpa using U,by omega,Y,e7⟩
  ·cases q
theorem CC{d:TypeDesc}{k v:Value}{b:Bool}(j:IsKey d k)(h:kEq k v=some b):Instr.sameNow d k v=some b:=by
 unfold kEq at h;split at h
 ·cases d<;>simp only[IsKey]at j
 ·rename_i m x p y;split at h
  ·rename_i hb;cases h;have e:=IntKind.oc hb;subst e;cases d<;>simp only[IsKey]at j;simp[Instr.sameNow]
  ·cases h
 ·cases h;cases d<;>simp only[IsKey]at j;simp[Instr.sameNow]
 ·cases h
theorem wJ{mu:Nat->Prop}{d:TypeDesc}{k:Value}(q:IsKey d k):∀(es:List (Value×AV)) (l:List MapEntry) (i0 j:Nat) (r:Option (Nat×AV)),RvM w mu π j es l->mz k es i0=some r->
  (r=none/\Instr.findNow d k l i0=some none)\/∃(m:Nat) (e:MapEntry) (A:AV),r=some (i0+m,A)/\Instr.findNow d k l i0=some (some (i0+m,e.val))/\l[m]?=some e/\es[m]?=some (e.key,A)/\e.born=j+m/\Rv w mu π A e.val/\Instr.sameBits 10000 e.key k=true
 |[],l,i0,j,r,h,p=>by cases h;cases p;exact .inl ⟨rfl,rfl⟩
 |(k',A)::es,l,i0,j,r,h,p=>by
  obtain⟨e,z,rfl,rfl,C,D,E⟩:=h;simp only[mz]at p;split at p
  ·rename_i hb;cases p;have g1:=CC q hb;exact .inr ⟨0,e,A,rfl,by simp[Instr.findNow,g1],rfl,rfl,C,D,BD hb⟩
  ·rename_i hb;have g1:=CC q hb;rcases wJ q es z (i0+1) (j+1) r E p with⟨e1,e2⟩|⟨m,I,J,e1,e2,M,N,U,O,T⟩
   ·exact .inl ⟨e1,by simp[Instr.findNow,g1,e2]⟩
   ·exact .inr ⟨m+1,I,J,by rw[e1];congr 2;omega,by simp[Instr.findNow,g1,e2];omega,by simpa using M,by simpa using N,by omega,O,T⟩
  ·cases p
theorem mR{mu:Nat->Prop}{t:TypeId}{k:Value}(m:jE P t k=true){es:List (Value×AV)}{l:List MapEntry}{r:Option (Nat×AV)}(h:RvM w mu π 0 es l)(z:mz k es 0=some r):
  (∀em,(Instr.checkKey em 10000 t k).run P w=.ok () w)/\((r=none/\(Instr.findKey t k l).run P w=.ok none w)\/∃(j:Nat) (e:MapEntry) (A:AV),r=some (0+j,A)/\(Instr.findKey t k l).run P w=.ok (some (0+j,e.val)) w/\l[j]?=some e/\es[j]?=some (e.key,A)/\e.born=0+j/\Rv w mu π A e.val/\Instr.sameBits 10000 e.key k=true):=by
 have simple:∀d,P.underlying t=some d->IsKey d k->_:=fun d hd q=>by
  refine And.intro (a:=∀em,(Instr.checkKey em 10000 t k).run P w=.ok () w) (b:=(r=none/\(Instr.findKey t k l).run P w=.ok none w)\/∃(j:Nat) (e:MapEntry) (A:AV),r=some (0+j,A)/\(Instr.findKey t k l).run P w=.ok (some (0+j,e.val)) w/\l[j]?=some e/\es[j]?=some (e.key,A)/\e.born=0+j/\Rv w mu π A e.val/\Instr.sameBits 10000 e.key k=true) (fun em=>Go.MapKept.run_checkKey hd q em 9999) ?_;rcases wJ q es l 0 0 _ h z with⟨e1,e2⟩|⟨j,C,A2,e1,e2,D,E,I,J,M⟩
  ·exact .inl ⟨e1,Go.MapKept.run_findKey hd e2⟩
  ·exact .inr ⟨j,C,A2,e1,Go.MapKept.run_findKey hd e2,D,E,I,J,M⟩
 unfold jE at m;split at m
 ·rename_i N O n hu;exact simple _ hu (IntKind.oc m).symm
 ·rename_i b hu;exact simple _ hu trivial
 ·rename_i T a hu;refine⟨fun em=>Cn m em w,?_⟩;have hw:(Instr.findKey t (.agg a) l).run P w=(Instr.findAsking t (.agg a) l).run P w:=by
   cases l with
   |nil=>simp[Instr.findKey,run_underlying hu,Instr.findNow,Instr.findAsking]
   |cons e l=>
    unfold ot at m;split at m
    ·rename_i n U p;simp[Instr.findKey,run_underlying p,Instr.findNow,Instr.sameNow]
    ·rename_i Y p;simp[Instr.findKey,run_underlying p,Instr.findNow,Instr.sameNow]
    ·cases m
  rw[hw];exact tv m es l 0 0 _ h z
 ·cases m
theorem RvM.len{mu:Nat->Prop}:∀(es:List (Value×AV)) (l:List MapEntry) (j:Nat),RvM w mu π j es l->l.length=es.length
 |[],_,_,h=>by cases h;rfl
 |(k,A)::es,_,j,h=>by obtain⟨e,m,rfl,_,_,_,p⟩:=h;simp[RvM.len es m _ p]
theorem RvM.get{mu:Nat->Prop}:∀(es:List (Value×AV)) (l:List MapEntry) (j i:Nat) (k:Value) (A:AV),RvM w mu π j es l->es[i]?=some (k,A)->∃e,l[i]?=some e/\e.key=k/\e.born=j+i/\Rv w mu π A e.val
 |[],_,_,i,k,A,_,h=>by simp at h
 |(k',J)::es,_,j,i,k,A,h,m=>by
  obtain⟨e,p,rfl,h2,q,z,C⟩:=h;cases i with
  |zero=>simp at m;obtain⟨rfl,rfl⟩:=m;exact⟨e,rfl,h2,q,z⟩
  |succ i=>
   obtain⟨D,g1,E,M,I⟩:=RvM.get es p (j+1) i k A C (by simpa using m);exact⟨D,by simpa using g1,E,by omega,I⟩
theorem RvM.set{mu:Nat->Prop}{k:Value}{A:AV}{v:Value}(m:Rv w mu π A v):∀(es:List (Value×AV)) (l:List MapEntry) (j i:Nat),RvM w mu π j es l->RvM w mu π j (es.set i (k,A)) (l.modify i fun e=>{e with key:=k,val:=v})
 |[],_,_,i,h=>by cases h;cases i<;>simp[RvM]
 |(k',D)::es,_,j,i,h=>by
  obtain⟨e,p,rfl,h2,q,C,z⟩:=h;cases i with
  |zero=>exact⟨_,p,rfl,rfl,q,m,z⟩
  |succ i=>exact⟨e,_,rfl,h2,q,C,RvM.set m es p (j+1) i z⟩
theorem RvM.snoc{mu:Nat->Prop}{k:Value}{A:AV}{v:Value}(m:Rv w mu π A v):∀(es:List (Value×AV)) (l:List MapEntry) (j:Nat),RvM w mu π j es l->RvM w mu π j (es++[(k,A)]) (l++[{key:=k,val:=v,born:=j+es.length}])
 |[],_,j,h=>by cases h;exact⟨_,[],rfl,rfl,rfl,m,rfl⟩
 |(k',p)::es,_,j,h=>by
  obtain⟨e,q,rfl,h2,z,C,D⟩:=h;have:=RvM.snoc (k:=k) m es q (j+1) D;rw[show j+1+es.length=j+((k',p)::es).length by simp;omega]at this;exact⟨e,_,rfl,h2,z,C,this⟩
theorem nq(j:Inv out B w π H){x:AV}{v:Value}{b:Nat}{es:List (Value×AV)}(hx:Rv w (aG out π H) π x v)(h:ks H x=some (b,es)):
  H[b]?=some (.map es)/\∃(p:PB) (a:Array MapEntry),v=.map (some p.blk)/\π[b]?=some (some p)/\w.heap[p.blk]?=some (.map a a.size)/\RvM w (aG out π H) π 0 es a.toList:=by
 unfold ks at h;split at h
 ·rename_i m;split at h
  ·rename_i es' hb;cases h;obtain⟨p,hp,rfl⟩:=hx;obtain⟨a,h1,h2⟩:=j.ok _ _ p hb hp;exact⟨hb,p,a,rfl,hp,h1,h2⟩
  ·cases h
 ·cases h
theorem wD{e:TypeId}{z:AV}(h:y0 P e=some z):∃j,(∀w,(zeroValue e).run P w=.ok j w)/\∀(w:World) (mu:Nat->Prop) (π:List (Option PB)),Rv w mu π z j:=by
 unfold y0 at h;split at h
 ·rename_i i m;split at h
  ·rename_i a ha;cases h;exact⟨.agg a,fun w=>by simp[zeroValue,typeInfo,m,ha],fun w mu π=>⟨a,rfl,fY _⟩⟩
  ·rename_i v _ p;cases h;exact⟨v,fun w=>by simp[zeroValue,typeInfo,m,p],fun w mu π=>rfl⟩
  ·cases h
 ·cases h
theorem yO(hI:Inv out B w π H){t:TypeId}{x E:AV}{v C:Value}{ok:Bool}{A:AV}(hx:Rv w (aG out π H) π x v)(hi:Rv w (aG out π H) π E C)(h:eh P H t x E ok=some A):
  ∃u,(Instr.lookup t v C ok).run P w=.ok u w/\Rv w (aG out π H) π A u:=by
 unfold eh at h;split at h
 ·rename_i kt e b es k hu hm I;obtain⟨_,p,a,rfl,hp,hb,U⟩:=nq hI hx hm;obtain rfl:C=k:=jG E C k hi I;have j:∀{J:AV} {u:Value} {c:Bool},Rv w (aG out π H) π J u->Rv w (aG out π H) π (.tup [J,.at (.bool c)]) (.tuple #[u,.bool c]):=fun h=>⟨_,rfl,_,_,rfl,h,_,_,rfl,rfl,rfl⟩
  split at h
  ·rename_i z i J M Y N;obtain⟨m,q⟩:=mR M U N;rcases q with⟨e1,_⟩|⟨jx,O,A2,e1,e2,_,_,_,e6,_⟩
   ·cases e1
   ·cases e1;have run:∀o,(Instr.lookup t (.map (some p.blk)) C o).run P w=.ok (if o then .tuple #[O.val,.bool true]else O.val) w:=by
     intro o;simp only[Instr.lookup,Sem.run_bind,run_underlying hu,Result.andThen_ok,Go.MapKept.run_getObj_map hb,Sem.run_pure,m,e2]
    cases h;refine⟨_,run ok,?_⟩;cases ok
    ·exact e6
    ·exact j e6
  ·rename_i z M Y N;obtain⟨m,q⟩:=mR M U N;obtain⟨zv,T,D⟩:=wD Y;rcases q with⟨_,e2⟩|⟨jx,O,A2,e1,_⟩
   ·have run:∀o,(Instr.lookup t (.map (some p.blk)) C o).run P w=.ok (if o then .tuple #[zv,.bool false]else zv) w:=by
     intro o;simp only[Instr.lookup,Sem.run_bind,run_underlying hu,Result.andThen_ok,Go.MapKept.run_getObj_map hb,Sem.run_pure,m,e2,T]
    cases h;refine⟨_,run ok,?_⟩;cases ok
    ·exact D _ _ _
    ·exact j (D _ _ _)
   ·cases e1
  ·cases h
 ·cases h
theorem toList_modify(a:Array MapEntry)(i:Nat)(f:MapEntry->MapEntry):(a.modify i f).toList=a.toList.modify i f:=by simp
theorem uG(m:Inv out B w π H){b:Nat}{es es':List (Value×AV)}{p:PB}{a a':Array MapEntry}(j:H[b]?=some (.map es))(hp:π[b]?=some (some p))(hb:w.heap[p.blk]?=some (.map a a.size))
  (q:∀(w':World) (mu':Nat->Prop),(∀A v,Rv w (aG out π H) π A v->Rv w' mu' π A v)->RvM w' mu' π 0 es' a'.toList):
  ∃w',w'={w with heap:=w.heap.setIfInBounds p.blk (.map a' a'.size)}/\Ext B w w' (aG out π H) (aG out π (aQ H [(b,.map es')])) π π/\Inv out B w' π (aQ H [(b,.map es')]):=by
 have hu:aQ H [(b,.map es')]=H.set b (.map es'):=by simp[aQ,upd,aN j]
 rw[hu];refine⟨_,rfl,?_⟩;obtain⟨g1,z⟩:=heap_set (o':=.map a' a'.size) hb;exact m.se j hp rfl (.map es') (by simp) (fun c hc=>z c hc) rfl rfl rfl (fun _=>Nat.le_refl _) (fun C=>⟨a',g1,q _ _ (fun A v h=>Rv.ext C A v h)⟩)
theorem RvM.of{w':World}{mu mu':Nat->Prop}(h:∀A v,Rv w mu π A v->Rv w' mu' π A v):∀(i:Nat) (es:List (Value×AV)) (l:List MapEntry),RvM w mu π i es l->RvM w' mu' π i es l
 |_,[],_,j=>j
 |i,(k,A)::es,l,j=>by
  obtain⟨e,m,h1,h2,p,q,z⟩:=j;exact⟨e,m,h1,h2,p,h _ _ q,RvM.of h (i+1) es m z⟩
theorem stays{old new:Value}(h:Instr.sameBits 10000 old new=true)(w:World):(Instr.keyThatStays old new).run P w=.ok new w:=by simp[Instr.keyThatStays,h]
theorem su(M:Inv out B w π H){t:TypeId}{m k x:AV}{vm vk I:Value}{r:bj}(hm:Rv w (aG out π H) π m vm)(D:Rv w (aG out π H) π k vk)(hx:Rv w (aG out π H) π x I)(h:gg P H t m k x=some r):
  cz P out B w π H (do Instr.mapUpdate t vm vk I;pure .skip) r:=by
 unfold gg at h;split at h
 ·rename_i kt e b es k' hu N O;obtain⟨hH,p,a,rfl,hp,hb,E⟩:=nq M hm N;obtain rfl:vk=k':=jG k vk k' D O;split at h
  ·rename_i i A D T;cases h;obtain⟨q,z⟩:=mR D E T;rcases z with⟨e1,_⟩|⟨J,en,A2,e1,e2,e3,e4,e5,e6,e7⟩
   ·cases e1
   ·cases e1;obtain⟨w',rfl,U,C⟩:=uG M (es':=es.set (0+J) (vk,x)) (a':=a.modify (0+J) fun e=>{e with key:=vk,val:=I}) hH hp hb (fun w' mu' j=>by
     rw[toList_modify];exact RvM.set (j _ _ hx) es a.toList 0 _ (RvM.of j 0 es _ E))
    have Y:(((a[0+J]?).map (·.key)).getD vk)=en.key:=by rw[<-Array.getElem?_toList,Nat.zero_add,e3];rfl
    refine⟨.skip,undef,_,π,?_,.inr ⟨rfl,rfl⟩,U,C,trivial,fun _ _=>rfl⟩;simp only[Instr.mapUpdate,Sem.run_bind,run_underlying hu,Result.andThen_ok,Go.MapKept.run_getObj_map hb,q,e2,Y,stays e7];simp[Go.MapKept.run_setObj_map _ hb]
  ·rename_i D T;cases h;obtain⟨q,z⟩:=mR D E T;rcases z with⟨_,e2⟩|⟨J,en,A2,e1,_⟩
   ·have hl:=RvM.len es a.toList 0 E;have hl:a.size=es.length:=by simpa using hl
    obtain⟨w',rfl,U,C⟩:=uG M (es':=es++[(vk,x)]) (a':=a.push {key:=vk,val:=I,born:=a.size}) hH hp hb (fun w' mu' j=>by
     have:=RvM.snoc (k:=vk) (j _ _ hx) es a.toList 0 (RvM.of j 0 es _ E);rw[Nat.zero_add,<-hl]at this;simpa using this)
    refine⟨.skip,undef,_,π,?_,.inr ⟨rfl,rfl⟩,U,C,trivial,fun _ _=>rfl⟩;simp only[Instr.mapUpdate,Sem.run_bind,run_underlying hu,Result.andThen_ok,Go.MapKept.run_getObj_map hb,q,e2];simp[Go.MapKept.run_setObj_map _ hb]
   ·cases e1
  ·cases h
 ·cases h
theorem zj{A:AV}{w':World}{mu:Nat->Prop}{u:Value}{i:Nat}(h:Rv w' mu π A u):Rv w' mu π (.tup [A,.at (.int .i64 i)]) (.tuple #[u,goInt i]):=⟨_,rfl,_,_,rfl,h,_,_,rfl,rfl,rfl⟩
theorem yw(Y:Inv out B w π H){t:TypeId}{m k:AV}{vm vk:Value}{r:bj}(hm:Rv w (aG out π H) π m vm)(J:Rv w (aG out π H) π k vk)(h:nm P H t m k=some r):
  cz P out B w π H (do pure (.value (<-Instr.mapEntry t vm vk))) r:=by
 unfold nm at h;split at h
 ·rename_i kt e b es k' hu a0 a1;obtain⟨hH,p,a,rfl,hp,hb,M⟩:=nq Y hm a0;obtain rfl:vk=k':=jG k vk k' J a1;have T:=RvM.len es a.toList 0 M;have T:a.size=es.length:=by simpa using T
  split at h
  ·rename_i z i A J hz hf;cases h;obtain⟨q,C⟩:=mR J M hf;rcases C with⟨e1,_⟩|⟨D,E,A2,e1,e2,e3,e4,e5,e6,e7⟩
   ·cases e1
   ·cases e1;have N:a.modify (0+D) (fun e=>{e with key:=vk})=a.modify (0+D) fun e=>{e with key:=vk,val:=E.val}:=by
     apply Array.ext (by simp);intro i h1 h2;rw[Array.getElem_modify,Array.getElem_modify];split
     ·rename_i hi;have:a[i]'(by simpa using h1)=E:=by
       have:a[i]?=some E:=by rw[<-hi,<-Array.getElem?_toList,Nat.zero_add];exact e3
       exact(Array.getElem?_eq_some_iff.1 this).2
      rw[this]
     ·rfl
    obtain⟨w',rfl,U,I⟩:=uG Y (es':=es.set (0+D) (vk,A)) (a':=a.modify (0+D) fun e=>{e with key:=vk,val:=E.val}) hH hp hb (fun w' mu' j=>by
     rw[toList_modify];exact RvM.set (j _ _ e6) es a.toList 0 _ (RvM.of j 0 es _ M))
    have hj:a[0+D]?=some E:=by rw[<-Array.getElem?_toList,Nat.zero_add,e3]
    refine⟨.value (.tuple #[E.val,goInt ((0+D:Nat):Int)]),_,_,π,?_,.inl rfl,U,I,zj (Rv.ext U _ _ e6),fun _ _=>rfl⟩;simp only[Instr.mapEntry,Sem.run_bind,run_underlying hu,Result.andThen_ok,Go.MapKept.run_getObj_map hb,q,e2,hj,Option.map_some,Option.getD_some,stays e7,N,e5];simp[Go.MapKept.run_setObj_map _ hb]
  ·rename_i z J hz hf;cases h;obtain⟨q,C⟩:=mR J M hf;obtain⟨zv,a2,O⟩:=wD hz;rcases C with⟨_,e2⟩|⟨D,E,A2,e1,_⟩
   ·obtain⟨w',rfl,U,I⟩:=uG Y (es':=es++[(vk,z)]) (a':=a.push {key:=vk,val:=zv,born:=a.size}) hH hp hb (fun w' mu' j=>by
     have:=RvM.snoc (k:=vk) (O w' mu' π) es a.toList 0 (RvM.of j 0 es _ M);rw[Nat.zero_add,<-T]at this;simpa using this)
    refine⟨.value (.tuple #[zv,goInt ((es.length:Nat):Int)]),_,_,π,?_,.inl rfl,U,I,zj (O _ _ _),fun _ _=>rfl⟩;simp only[Instr.mapEntry,Sem.run_bind,run_underlying hu,Result.andThen_ok,Go.MapKept.run_getObj_map hb,q,e2,a2];simp[Go.MapKept.run_setObj_map _ hb,T]
   ·cases e1
  ·cases h
 ·cases h
theorem yx{k:IntKind}{n:Int}:(asInt (.int k n)).run P w=.ok n w:=by simp[asInt,asIntOf]
theorem RvM.born{mu:Nat->Prop}:∀(es:List (Value×AV)) (l:List MapEntry) (j i:Nat),RvM w mu π j es l->i<es.length->l.findIdx? (fun e=>(e.born:Int)==((j+i:Nat):Int))=some i
 |[],_,_,i,_,m=>by simp at m
 |(k',C)::es,_,j,i,h,m=>by
  obtain⟨e,q,rfl,h2,p,D,z⟩:=h;rw[List.findIdx?_cons];cases i with
  |zero=>simp[p]
  |succ i=>
   have:=RvM.born es q (j+1) i z (by simpa using m);rw[show j+1+i=j+(i+1)by omega]at this;rw[this];have:((e.born:Int)==((j+(i+1):Nat):Int))=false:=by rw[p];simp;omega
   rw[this];rfl
theorem tM(T:Inv out B w π H){t:TypeId}{m s x:AV}{U vs q:Value}{r:bj}(hm:Rv w (aG out π H) π m U)(hs:Rv w (aG out π H) π s vs)(hx:Rv w (aG out π H) π x q)(h:lW H m s x=some r):
  cz P out B w π H (do Instr.entryStore t U vs q;pure .skip) r:=by
 unfold lW at h;split at h
 ·rename_i b es i C D;obtain⟨hH,p,a,rfl,hp,hb,E⟩:=nq T hm C;split at h
  ·rename_i k A Y I;cases h;have Y:0<=i:=by simpa using Y
   obtain⟨sk,rfl⟩:=kh hs D;obtain⟨n,rfl⟩:∃n:Nat,i=n:=⟨i.toNat,by omega⟩;rw[Int.toNat_natCast]at I ⊢;obtain⟨en,g1,g2,g3,g4⟩:=RvM.get es a.toList 0 n k A E I;have J:n<es.length:=(List.getElem?_eq_some_iff.1 I).1;have M:=RvM.born es a.toList 0 n E J;have N:a.findIdx? (fun e=>(e.born:Int)==(n:Int))=some n:=by
    have e:a=a.toList.toArray:=rfl;rw[e,List.findIdx?_toArray];simpa using M
   have z:a.modify n (fun e=>{e with val:=q})=a.modify n fun e=>{e with key:=k,val:=q}:=by
    apply Array.ext (by simp);intro i h1 h2;rw[Array.getElem_modify,Array.getElem_modify];split
    ·rename_i D;have:a[i]'(by simpa using h1)=en:=by
      have:a[i]?=some en:=by rw[<-D,<-Array.getElem?_toList];exact g1
      exact(Array.getElem?_eq_some_iff.1 this).2
     rw[this,<-g2]
    ·rfl
   obtain⟨w',rfl,hE,O⟩:=uG T (es':=es.set n (k,x)) (a':=a.modify n fun e=>{e with key:=k,val:=q}) hH hp hb (fun w' mu' j=>by
    rw[toList_modify];exact RvM.set (j _ _ hx) es a.toList 0 _ (RvM.of j 0 es _ E))
   refine⟨.skip,undef,_,π,?_,.inr ⟨rfl,rfl⟩,hE,O,trivial,fun _ _=>rfl⟩;simp only[Instr.entryStore,Sem.run_bind,Go.MapKept.run_getObj_map hb,Result.andThen_ok,yx,N,z];simp[Go.MapKept.run_setObj_map _ hb]
  ·cases h
 ·cases h
theorem gV(m:Inv out B w π H){n:Nat}(z:n<=H.length)(p:Option PB)(x:Blk):∀j,(∀b,(j,b)∉[(n,x)])->(upd π n p)[j]?=π[j]?:=by
 intro j q;rw[fA (by have:=m.len;omega),if_neg];rintro rfl;exact q x (by simp)
theorem wS(p:Inv out B w π H){nid:Nat}(z:nid<=H.length)(E:∀q,π[nid]?≠some (some q)){t:TypeId}{r:Option AV}{j:Option Value}{x:bj}(C:match r,j with|none,none=>True|some r,some v=>Rv w (aG out π H) π r v|_,_=>False)(h:qz P nid t r=some x):
  cz P out B w π H (do pure (.value (<-Instr.makeMap t j))) x:=by
 have key:(Instr.makeMap t j).run P w=.ok (.map (some w.heap.size)) (w.alloc (.map #[] 0))/\x=.eff (.mp nid) [(nid,.map [])]:=by
  unfold qz at h;cases r with
  |none=>
   cases j with
   |none=>cases h;exact⟨by simp[Instr.makeMap],rfl⟩
   |some _=>exact C.elim
  |some r=>
   cases j with
   |none=>exact C.elim
   |some v=>
    simp only at h C;split at h
    ·rename_i q kt e I hu;cases h;have:=sy C I;subst this;exact⟨by simp[Instr.makeMap,run_underlying hu,asInt,asIntOf],rfl⟩
    ·cases h
 obtain⟨m,rfl⟩:=key;have J:=qh p (.map #[] 0) (.map []) ⟨w.heap.size,0,0,fun _=>none⟩ rfl z E;have D:=p.alloc (.map #[] 0) (.map []) ⟨w.heap.size,0,0,fun _=>none⟩ rfl z E ⟨#[],by show(w.heap.push _)[w.heap.size]?=_;simp,rfl⟩;refine⟨_,.map (some w.heap.size),_,_,by simp[m],.inl rfl,J,D,⟨_,iT p z _,rfl⟩,gV p z _ _⟩
theorem F5{mu:Nat->Prop}(k:Value):Rv w mu π (HK k) k:=by
 cases k<;>first|exact⟨_,rfl,fY _⟩|exact rfl
theorem yJ(j:Inv out B w π H){nid:Nat}(z:nid<=H.length)(C:∀q,π[nid]?≠some (some q)){t:TypeId}{m:AV}{J:Value}{x:bj}(hm:Rv w (aG out π H) π m J)(h:ow P H nid t m=some x):
  cz P out B w π H (do pure (.value (<-Instr.range t J))) x:=by
 unfold ow at h;split at h
 ·rename_i kt e b es hu D;cases h;obtain⟨M,p,a,rfl,hp,hb,N⟩:=nq j hm D;have O:a.size=es.length:=by have:=RvM.len es a.toList 0 N;simpa using this
  have E:b≠nid:=fun e=>C p (by rw[<-e];exact hp)
  have T:p.blk<w.heap.size:=(j.base b _ p M hp rfl).2;have U:=qh j (.mapIter (some p.blk) a.size #[] a.size) (.iter b es.length []) ⟨w.heap.size,0,0,fun _=>none⟩ rfl z C;have I:=j.alloc (.mapIter (some p.blk) a.size #[] a.size) (.iter b es.length []) ⟨w.heap.size,0,0,fun _=>none⟩ rfl z C ⟨rfl,p,by rw[fA (by have:=j.len;omega),if_neg E];exact hp,by show(w.heap.push _)[w.heap.size]?=_;rw[<-O];simp⟩;refine⟨_,.pointer (some ⟨w.heap.size,0,none⟩),_,_,?_,.inl rfl,U,I,⟨_,iT j z _,rfl⟩,gV j z _ _⟩;simp only[Instr.range,Sem.run_bind,run_underlying hu,Result.andThen_ok,Go.MapKept.run_getObj_map hb,Sem.run_pure];rfl
 ·cases h
theorem uK(hI:Inv out B w π H){x:AV}{v:Value}{r:bj}(hx:Rv w (aG out π H) π x v)(h:jh H x=some r):cz P out B w π H (do pure (.value (<-Instr.entry v))) r:=by
 unfold jh at h;split at h
 ·rename_i m n seen z;unfold rM at z;split at z
  ·rename_i j;split at z
   ·rename_i m' n' M N;cases z;obtain⟨p,hp,rfl⟩:=hx;obtain⟨ho,q,hq,hh⟩:=hI.ok j _ p N hp;split at h
    ·rename_i es O;obtain⟨a,ha,T⟩:=hI.ok m _ q O hq;have hl:a.size=es.length:=by have:=RvM.len es a.toList 0 T;simpa using this
     split at h
     ·rename_i i U C;split at h
      ·rename_i k A hi;cases h;have U:es.length=n:=dcT U;obtain⟨J,g1,g2,g3,g4⟩:=RvM.get es a.toList 0 i k A T hi;have D:seen.toArray.back?=some i:=by rw[<-C];simp[Array.back?,List.getLast?_eq_getElem?]
       have E:a.find? (fun e=>e.born==i)=some J:=by
        have Y:i<es.length:=(List.getElem?_eq_some_iff.1 hi).1;have a0:=RvM.born es a.toList 0 i T Y;rw[<-Array.find?_toList];have a1:a.toList.findIdx? (fun e=>e.born==i)=some i:=by
         rw[<-a0];congr 1;funext e;rw[Nat.zero_add,Bool.eq_iff_iff,beq_iff_eq,beq_iff_eq];omega
        rw[List.find?_eq_some_iff_getElem];have h3:=List.findIdx?_eq_some_iff_getElem.1 a1;obtain⟨h4,h5,h6⟩:=h3;have he:a.toList[i]=J:=(List.getElem?_eq_some_iff.1 g1).2;refine⟨by rw[<-he];exact h5,i,h4,he,fun j N=>by simpa using h6 j N⟩
       have I:(Instr.entry (.pointer (some ⟨p.blk,p.off+0,none⟩))).run P w=.ok (.tuple #[J.key,J.val]) w:=by
        rw[Nat.add_zero,ho];simp only[Instr.entry,getObj,Sem.run_bind,Sem.run,hh,ha,Result.andThen,D,hl,U,bne_self_eq_false,Bool.false_eq_true,if_false,E];rfl
       exact cz.value I ⟨_,rfl,_,_,rfl,by rw[g2];exact F5 k,_,_,rfl,g4,rfl⟩
      ·cases h
     ·cases h
    ·cases h
   ·cases z
  ·cases z
 ·cases h
end
end Go.Eng


namespace Go.Eng
open Go Go.RowKit
variable[Dr]
section
variable{P:Program}{out:Nat->Prop}{B:Nat->Prop}{w:World}{π:List (Option PB)}{H:List Blk}
theorem Inv.same{w':World}(j:Inv out B w π H)(m:w'.heap=w.heap)(z:w'.os=w.os)(C:w'.tape=w.tape)(hu:w'.output=w.output)(hd:Dr.d=true->w.drawn<=w'.drawn):
  Ext B w w' (aG out π H) (aG out π H) π π/\Inv out B w' π H:=by
 have q:Ext B w w' (aG out π H) (aG out π H) π π:=⟨fun _ _=>by rw[m],by rw[m];exact Nat.le_refl _,fun b _ h=>⟨by rw[m],h⟩,fun _ _ h=>h,z,C,hu,hd⟩;exact⟨q,j.len,by rw[m];exact j.bound,j.out_lt,by rw[m];exact j.baseO,fun i x p h1 h2=>eD.ext q (fun _ _=>by rw[m]) (j.ok i x p h1 h2),j.sepO⟩
theorem BJ(m:Inv out B w π H){nid:Nat}(p:nid<=H.length)(E:∀q,π[nid]?≠some (some q)){t:TypeId}{z:List AV}(I:ml P t=some z)(h1:z.all gu=true):
  cz P out B w π H (do pure (.value (<-Instr.alloc t true (.tuple #[])))) (.eff (.hp nid 0) [(nid,.own z)]):=by
 obtain⟨D,_,N,J,j,rfl⟩:=sb I w;obtain⟨M,C⟩:=nt m p E (D.cells.toList.map .at) D.cells t (fY _) (all_zero h1);refine⟨_,.pointer (some ⟨w.heap.size,0,none⟩),_,_,by simp[Instr.alloc,j,newVar,newRow],.inl rfl,M,C,⟨_,iT m p _,rfl⟩,gV m p _ _⟩
theorem D2(j:Inv out B w π H){nid:Nat}(m:nid<=H.length)(z:∀q,π[nid]?≠some (some q)){t:TypeId}{x:AV}{v:Value}(hx:Rv w (aG out π H) π x v)(h1:(cellsOf x).all gu=true):
  cz P out B w π H (do pure (.value (<-Instr.box t v))) (.eff (.hp nid 0) [(nid,.own (cellsOf x))]):=by
 obtain⟨g1,C⟩:=ni hx h1;obtain⟨D,p⟩:=nt j m z (cellsOf x) v.cells t g1 C;exact⟨_,.pointer (some ⟨w.heap.size,0,none⟩),_,_,by simp[Instr.box,newVar,newRow],.inl rfl,D,p,⟨_,iT j m _,rfl⟩,gV j m _ _⟩
def HF(w:World)(mu:Nat->Prop)(π:List (Option PB))(ρ:Operand->AV)(ρc:Operand->Value)(l:List (Nat×Operand)):Prop:=
 RvL w mu π ((l.map fun p=>(p.1,ρ p.2)).map (·.2)) ((l.map fun p=>(p.1,ρc p.2)).map (·.2))
theorem sL{ρ:Operand->AV}{ρc:Operand->Value}{mu:Nat->Prop}(hρ:∀x,Rv w mu π (ρ x) (ρc x)):∀l:List (Nat×Operand),HF w mu π ρ ρc l
 |[]=>rfl
 |(_,x)::l=>⟨_,_,rfl,hρ x,sL hρ l⟩
theorem vb{ρ:Operand->AV}{ρc:Operand->Value}{mu:Nat->Prop}(hρ:∀x,Rv w mu π (ρ x) (ρc x)):∀l:List Operand,RvL w mu π (l.map ρ) (l.map ρc)
 |[]=>rfl
 |x::l=>⟨_,_,rfl,hρ x,vb hρ l⟩
theorem sx{t:TypeId}{z:List AV}(h:ml P t=some z):∃j:Value,(∀w,(zeroValue t).run P w=.ok j w)/\z=j.cells.toList.map .at:=by
 unfold ml at h;split at h
 ·rename_i i m;split at h
  ·rename_i j p;cases h;exact⟨j,fun w=>by simp[zeroValue,typeInfo,m,p],rfl⟩
  ·cases h
 ·cases h
theorem vV(O:Inv out B w π H){nid:Nat}(j:nid<=H.length)(T:∀q,π[nid]?≠some (some q)){ρ:Operand->AV}{ρc:Operand->Value}(hρ:∀x,Rv w (aG out π H) π (ρ x) (ρc x)){t e:TypeId}{len n:Nat}{z cs:List AV}{parts:Array (Nat×Operand)}
  (hu:P.underlying t=some (.slice e)) (hn:fO P e=some n) (hz:ml P e=some z) (h1:len*n<=16777216) (h2:z.length=n) (h3:z.all gu=true)
  (hf:tl (fun i=>some (i*n,n)) (dB z len) (parts.toList.map fun p=>(p.1,ρ p.2))=some cs):
  cz P out B w π H (do pure (.value (<-Instr.buildSlice t len (parts.map fun(i,x)=>(i,ρc x))))) (.eff (.hs nid 0 len n) [(nid,.own cs)]):=by
 obtain⟨D,U,rfl⟩:=sx hz;have Y:D.cells.size=n:=by simpa using h2
 have a1:=all_zero h3;have m:∀z0:Array Value,(if len*n=0 then z0=#[]else z0=D.cells)->((Array.range (len*n)).map (z0[·%z0.size]!)).toList=(List.replicate len D.cells.toList).flatten:=by
  intro z0 M;by_cases E:len*n=0
  ·rw[if_pos E]at M;subst M;rw[E];rcases Nat.mul_eq_zero.1 E with e0|e0
   ·simp[e0]
   ·have:D.cells=#[]:=by rw[<-Array.size_eq_zero_iff];omega
    simp[this]
  ·rw[if_neg E]at M;subst M;have a0:0<D.cells.size:=by
    rw[Y];exact Nat.pos_of_ne_zero fun e0=>E (by rw[e0];simp)
   have:=mB D.cells len a0;rw[Y]at this;simpa [madeCells]using this
 have J:(parts.map fun p:Nat×Operand=>(p.1,ρc p.2)).toList=parts.toList.map fun p=>(p.1,ρc p.2):=by simp
 have fin:∀z0:Array Value,((Array.range (len*n)).map (z0[·%z0.size]!)).toList=(List.replicate len D.cells.toList).flatten->
   ∃I,Instr.fill (fun i=>some (i*n,n)) ((Array.range (len*n)).map (z0[·%z0.size]!)) (parts.map fun p:Nat×Operand=>(p.1,ρc p.2)).toList=some I/\RvL w (aG out π H) π cs I.toList/\(∀v∈I.toList,v.oneCell'=true)/\I.size=len*n:=by
  intro z0 M;obtain⟨I,r1,r2,r3,r4⟩:=pq (w:=w) (π:=π) (mu:=aG out π H) (place:=fun i=>some (i*n,n)) (parts.toList.map fun p=>(p.1,ρ p.2)) (parts.toList.map fun p=>(p.1,ρc p.2)) (dB (D.cells.toList.map .at) len)
   ((Array.range (len*n)).map (z0[·%z0.size]!)) cs (by simp) (sL hρ _) (by rw[M];exact sK _ _) (by rw[M];exact kW a1 _) hf
  exact⟨I,by rw[J];exact r1,r2,r4,by rw[r3];simp⟩
 have hle:¬16777216<len*n:=by omega
 by_cases E:len*n=0
 ·obtain⟨I,r1,r2,r3,r4⟩:=fin #[] (m #[] (by rw[if_pos E]));obtain⟨hE,N⟩:=nt O j T cs I e r2 r3;refine⟨_,.slice (some ⟨w.heap.size,0,none⟩) len len,_,_,?_,.inl rfl,hE,N,.inr ⟨_,_,_,iT O j _,rfl,Nat.le_refl _,rfl,fun _=>⟨rfl,?_⟩⟩,gV O j _ _⟩
  ·have C:¬len*n>2^24:=by simpa using hle
   simp only[Instr.buildSlice,Sem.run_bind,run_underlying hu,Result.andThen_ok,bK hn,Sem.run_ite,if_neg C,if_pos E,Sem.run_pure];rw[r1];rfl
  ·simp[r4]
 ·obtain⟨I,r1,r2,r3,r4⟩:=fin D.cells (m D.cells (by rw[if_neg E]));obtain⟨hE,N⟩:=nt O j T cs I e r2 r3;refine⟨_,.slice (some ⟨w.heap.size,0,none⟩) len len,_,_,?_,.inl rfl,hE,N,.inr ⟨_,_,_,iT O j _,rfl,Nat.le_refl _,rfl,fun _=>⟨rfl,?_⟩⟩,gV O j _ _⟩
  ·have C:¬len*n>2^24:=by simpa using hle
   simp only[Instr.buildSlice,Sem.run_bind,run_underlying hu,Result.andThen_ok,bK hn,Sem.run_ite,if_neg C,if_neg E,U,Sem.run_pure];rw[r1];rfl
  ·simp[r4]
theorem tH{mu:Nat->Prop}{ρ:Operand->AV}{ρc:Operand->Value}(hρ:∀x,Rv w mu π (ρ x) (ρc x)){t:TypeId}{C:Array Field}{z cs:List AV}{pl:List (Nat×Nat)}{parts:Array (Nat×Operand)}
  (hu:P.underlying t=some (.struct C)) (J:ml P t=some z) (hp:sN P C.toList=some pl) (h1:z.all gu=true) (M:tl (fun i=>pl[i]?) z (parts.toList.map fun p=>(p.1,ρ p.2))=some cs):
  ∃u,(Instr.build t (parts.map fun(i,x)=>(i,ρc x))).run P w=.ok u w/\Rv w mu π (.agg cs) u:=by
 obtain⟨E,q,rfl⟩:=sx J;obtain⟨I,r1,r2,r3,r4⟩:=pq (w:=w) (π:=π) (mu:=mu) (place:=fun i=>pl[i]?) (parts.toList.map fun p:Nat×Operand=>(p.1,ρ p.2)) (parts.toList.map fun p:Nat×Operand=>(p.1,ρc p.2)) (E.cells.toList.map .at) E.cells cs (by simp) (sL hρ parts.toList) (fY _) (all_zero h1) M;have j:(parts.map fun p:Nat×Operand=>(p.1,ρc p.2)).toList=parts.toList.map fun p=>(p.1,ρc p.2):=by simp
 refine⟨.agg I,?_,I,rfl,r2⟩;have D:(C.mapM (m:=Sem) fun f=>do pure (f.offset,<-sizeOf f.type)).run P w=.ok pl.toArray w:=by
  rw[Array.mapM_eq_mapM_toList];have:=tu (P:=P) w C.toList pl hp;simp only[Sem.run_map,this,Result.andThen_ok]
 simp only[Instr.build,Sem.run_bind,q,Result.andThen_ok,run_underlying hu,D,j];have e:(fun x:Nat=>pl.toArray[x]?)=(fun i:Nat=>pl[i]?):=by funext i;simp
 simp only[e,r1];rfl
theorem u9{mu:Nat->Prop}{ρ:Operand->AV}{ρc:Operand->Value}(hρ:∀x,Rv w mu π (ρ x) (ρc x)){t e:TypeId}{len n:Nat}{z cs:List AV}{parts:Array (Nat×Operand)}
  (hu:P.underlying t=some (.array len e)) (D:ml P t=some z) (E:fO P e=some n) (h1:z.all gu=true) (I:tl (fun i=>some (i*n,n)) z (parts.toList.map fun p=>(p.1,ρ p.2))=some cs):
  ∃u,(Instr.build t (parts.map fun(i,x)=>(i,ρc x))).run P w=.ok u w/\Rv w mu π (.agg cs) u:=by
 obtain⟨q,m,rfl⟩:=sx D;obtain⟨C,r1,r2,r3,r4⟩:=pq (w:=w) (π:=π) (mu:=mu) (place:=fun i=>some (i*n,n)) (parts.toList.map fun p:Nat×Operand=>(p.1,ρ p.2)) (parts.toList.map fun p:Nat×Operand=>(p.1,ρc p.2)) (q.cells.toList.map .at) q.cells cs (by simp) (sL hρ parts.toList) (fY _) (all_zero h1) I;have j:(parts.map fun p:Nat×Operand=>(p.1,ρc p.2)).toList=parts.toList.map fun p=>(p.1,ρc p.2):=by simp
 refine⟨.agg C,?_,C,rfl,r2⟩;simp only[Instr.build,Sem.run_bind,m,Result.andThen_ok,run_underlying hu,bK E,j];rw[r1];rfl
theorem wN(C:Inv out B w π H){nid:Nat}(j:nid<=H.length)(D:∀q,π[nid]?≠some (some q)){t e:TypeId}{kl kc:IntKind}{l c:Int}{n by_:Nat}{z:List AV}(hu:P.underlying t=some (.slice e))(hn:fO P e=some n)(hb:qA P e=some by_)(hz:ml P e=some z)
  (h0:0<=l) (E:l<=c) (I:(by_:Int)*c<=281474976710656) (J:c<=9223372036854775807) (M:z.length=n) (a1:0<n) (h3:z.all gu=true):
  cz P out B w π H (do pure (.value (<-Instr.makeSlice t (.int kl l) (.int kc c)))) (.eff (.hs nid 0 l.toNat n) [(nid,.own (dB z c.toNat))]):=by
 obtain⟨m,i,N,O,a0,rfl⟩:=sb hz w;have p:i.size=n:=by simpa [fO,N]using hn
 have T:i.bytes=by_:=by simpa [qA,N]using hb
 have U:m.cells.size=n:=by simpa using M
 have hm:=run_make (P:=P) w t e i m hu N O kl kc l c h0 E (by rw[T];exact I) J;have he:(madeCells m.cells (c.toNat*i.size)).toList=(List.replicate c.toNat m.cells.toList).flatten:=by
  rw[p,<-U];exact mB m.cells c.toNat (by omega)
 obtain⟨hE,Y⟩:=nt C j D (dB (m.cells.toList.map .at) c.toNat) (madeCells m.cells (c.toNat*i.size)) e (by rw[he];exact sK _ _) (by rw[he];exact kW (all_zero h3) _);exact⟨_,.slice (some ⟨w.heap.size,0,none⟩) l.toNat c.toNat,_,_,by simp[hm],.inl rfl,hE,Y,.inr ⟨_,_,_,iT C j _,rfl,by omega,rfl,fun _=>⟨rfl,by simp[size_madeCells,p]⟩⟩,gV C j _ _⟩
end
section
variable{P:Program}{out:Nat->Prop}{B:Nat->Prop}{w:World}{π:List (Option PB)}{H:List Blk}
theorem qa(O:Inv out B w π H){n:Nat}{x:AV}{v:Value}{cs:List AV}{m:Nat}(hx:Rv w (aG out π H) π x v)(h:iI H n x=some (cs,m)):
  ∃a cap,v=.slice a m cap/\(a=none->m=0)/\m<=cap/\∃vs:List Value,vs.length=m*n/\RvL w (aG out π H) π cs vs/\(∀u∈vs,u.oneCell'=true)/\(∀b,a=some b->∀j u,vs[j]?=some u->w.cell? (b.add j)=some u):=by
 unfold iI at h;split at h
 ·cases h;cases hx;exact⟨none,0,rfl,fun _=>rfl,Nat.le_refl _,[],by simp,rfl,by simp,fun b hb=>by cases hb⟩
 ·rename_i nl c len;split at h
  ·rename_i M;simp only[decide_eq_true_eq]at M;cases h;rcases hx with⟨_,rfl,rfl,rfl⟩|⟨b,o,cap,rfl,h2,N,T⟩|⟨rfl,rfl,a,cap,rfl⟩
   rotate_left 2
   ·exact⟨some a,cap,rfl,fun _=>rfl,Nat.zero_le _,[],by simp,rfl,by simp,fun b hb j u C=>by simp at C⟩
   ·exact⟨none,0,rfl,fun _=>rfl,Nat.le_refl _,[],by simp,rfl,by simp,fun b hb=>by cases hb⟩
   ·obtain⟨vs,g1,D,E,I⟩:=sW T.lift (Nat.le_refl _);rw[List.take_length]at D;exact⟨_,cap,rfl,(fun e=>by cases e),h2,vs,by rw[g1];exact M,D,E,fun Y J=>by cases J;exact I⟩
  ·cases h
 ·rename_i i off len es;rcases hx with⟨rfl,rfl⟩|⟨p,a,cap,h1,rfl,h2,U,N⟩
  ·have:cs=[]/\m=0:=by
    split at h
    ·split at h
     ·cases h;simp
     ·cases h
    ·split at h
     ·cases h;simp
     ·cases h
    ·cases h
   obtain⟨rfl,rfl⟩:=this;exact⟨none,0,rfl,fun _=>rfl,Nat.le_refl _,[],by simp,rfl,by simp,fun b hb=>by cases hb⟩
  have key:∀c:List AV,(H[i]?=some (.own c)\/H[i]?=some (.fix c))->off+len*n<=c.length->cs=(c.drop off).take (len*n)->m=len->
    ∃a' q,Value.slice (some a) len cap=.slice a' m q/\(a'=none->m=0)/\m<=q/\∃vs:List Value,vs.length=m*n/\RvL w (aG out π H) π cs vs/\(∀u∈vs,u.oneCell'=true)/\(∀b,a'=some b->∀j u,vs[j]?=some u->w.cell? (b.add j)=some u):=by
   intro c hc hle e1 e2;subst e1;subst e2;obtain⟨vs,g1,D,E,I⟩:=sW (n:=m*n) (RvC.drop off c _ _ (fT O hc h1)) (by simp;omega);refine⟨_,cap,rfl,(fun e=>by cases e),h2,vs,g1,D,E,fun b hb=>?_⟩;cases hb;intro j u C;by_cases z:0<cap
   ·rw[(N z).1];exact I j u C
   ·have : vs.length = 0 := by rw[g1];have:m=0:=by omega
                               simp[this]
    rw[List.length_eq_zero_iff]at this;subst this;simp at C
  split at h
  ·rename_i c hc;split at h
   ·rename_i hle;cases h;exact key c (.inl hc) (by simpa using hle) rfl rfl
   ·cases h
  ·rename_i c hc;split at h
   ·rename_i hle;cases h;exact key c (.inr hc) (by simpa using hle) rfl rfl
   ·cases h
  ·cases h
 ·cases h
theorem jt{n m cap:Nat}{a:Option Addr}{vs:List Value}(w:World)(p:vs.length=m*n)(q:a=none->m=0)(h:∀b,a=some b->∀j u,vs[j]?=some u->w.cell? (b.add j)=some u):
  (Builtin.firstCells n m (.slice a m cap)).run P w=.ok vs.toArray w:=by
 cases a with
 |none=>
  have:vs=[]:=by rw[<-List.length_eq_zero_iff,p,q rfl];simp
  subst this;rfl
 |some b=>exact run_firstCells_some w n m b m cap vs p (h b rfl)
theorem Ad(hI:Inv out B w π H){nid:Nat}(D:nid<=H.length)(a5:∀q,π[nid]?≠some (some q)){t t' e e' ty:TypeId}{n by_:Nat}{z:List AV}{s x:AV}{vs vx:Value}{r:bj}(ht:P.underlying t=some (.slice e))(a9:P.underlying t'=some (.slice e'))
  (hn:fO P e=some n) (hb:qA P e=some by_) (hz:ml P e=some z) (c7:z.length=n) (hs:Rv w (aG out π H) π s vs) (hx:Rv w (aG out π H) π x vx) (h:mi H nid n by_ s x=some r):
  cz P out B w π H (do pure (.value (<-Builtin.append_ #[t,t'] ty #[vs,vx]))) r:=by
 obtain⟨zv,i,hi,b8,j4,rfl⟩:=sb hz w;have b9:i.size=n:=by simpa [fO,hi]using hn
 have c0:i.bytes=by_:=by simpa [qA,hi]using hb
 unfold mi at h;split at h
 ·cases h
 ·rename_i new m hc;obtain⟨a,cap,rfl,h0,h1,us,b0,T,a1,b5⟩:=qa hI hx hc;have c1:=jt (P:=P) (cap:=cap) w b0 h0 b5;have b7:=jt (P:=P) (cap:=cap) w.drew b0 h0 (by simpa using b5);have nothing:m=0->us=[]/\new=[]:=by
   intro hm;have g6:us=[]:=by rw[<-List.length_eq_zero_iff,b0,hm];simp
   subst g6;have:=RvL.length _ _ T;exact⟨rfl,by rw[<-List.length_eq_zero_iff];simpa using this.symm⟩
  have fin:m=0->∀(b:Option Addr) (l c:Nat),l<=c->(Builtin.append_ #[t,t'] ty #[.slice b l c,.slice a m cap]).run P w=.ok (.slice b l c) w:=by
   intro hm b l c g7;obtain⟨rfl,_⟩:=nothing hm;subst hm;cases b with
   |none=>simp[Builtin.append_,run_underlying ht,run_underlying a9,bK hn,Builtin.lenOf,g7,c1]
   |some b=>simp[Builtin.append_,run_underlying ht,run_underlying a9,bK hn,Builtin.lenOf,g7,c1,storeCells]
  by_cases c3:m=0
  ·
   obtain⟨j5,e4⟩:=nothing c3;have a8:=fin c3;clear c1 b7 nothing fin b0 T a1 b5;split at h
   ·split at h
    ·cases h;cases hs;obtain⟨O,I⟩:=hI.xf D a5 (.own new);refine⟨_,.slice none 0 0,w,upd π nid none,by simp only[Sem.run_bind,a8 none 0 0 (Nat.le_refl _),Result.andThen_ok];rfl,.inl rfl,O,I,.inl ⟨c3,rfl⟩,gV hI D _ _⟩
    ·cases h
   ·split at h
    ·cases h;have e5:=hs;rcases hs with⟨rfl,rfl,rfl,rfl⟩|⟨b,o,c,rfl,g2,_⟩|⟨rfl,rfl,a,c,rfl⟩
     ·exact cz.value (a8 _ _ _ (Nat.le_refl _)) e5
     ·exact cz.value (a8 _ _ _ g2) e5
     ·exact cz.value (a8 _ _ _ (Nat.zero_le _)) e5
    ·cases h
   ·rename_i i' off len es;split at h
    ·rename_i cs hH;split at h
     ·rename_i E;simp only[Bool.and_eq_true,decide_eq_true_eq]at E;obtain⟨⟨⟨⟨rfl,k0⟩,k1⟩,k2⟩,k3⟩:=E;cases h;subst c3;subst e4;rcases hs with⟨rfl,rfl⟩|⟨p,b,C,a4,rfl,h2,e6,h3⟩
      ·obtain⟨a0,a7⟩:=hI.kill i' (w':=w) rfl rfl rfl rfl (fun _=>Nat.le_refl _);obtain⟨O,I⟩:=a7.xf (by simpa using D) a5 (.own ((cs.drop off).take (0*es)++[]));have N:aQ H [(i',.dead),(nid,.own ((cs.drop off).take (0*es)++[]))]=upd (H.set i' .dead) nid (.own ((cs.drop off).take (0*es)++[])):=by simp[aQ,upd,aN hH]
       rw[<-N]at O I;exact⟨_,.slice none 0 0,w,upd π nid none,by simp only[Sem.run_bind,a8 none 0 0 (Nat.le_refl _),Result.andThen_ok];rfl,.inl rfl,a0.trans O,I,.inl ⟨rfl,rfl⟩,fun j M=>gV hI D none (.own ((cs.drop off).take (0*es)++[])) j (fun b hb=>M b (by simp at hb ⊢;exact .inr hb))⟩
      ·obtain⟨⟨c,te,J,c8⟩,hC⟩:=hI.ok i' _ p hH a4;obtain⟨O,I⟩:=hI.grow hH a4 rfl (.own ((cs.drop off).take (len*es)++[])) ⟨p.blk,p.off+off,p.size,fun _=>none⟩ rfl D a5 (w':=w) rfl (fun _ _=>rfl) rfl rfl rfl (fun _=>Nat.le_refl _) (fun O=>by
        refine⟨⟨c,te,J,c8⟩,?_⟩;have h8:=RvC.ext O ((cs.drop off).take (len*es)) _ _ rfl (RvC.take (len*es) _ _ _ (RvC.drop off cs _ _ hC));simpa using h8)
       have N:aQ H [(i',.dead),(nid,.own ((cs.drop off).take (len*es)++[]))]=upd (H.set i' .dead) nid (.own ((cs.drop off).take (len*es)++[])):=by simp[aQ,upd,aN hH]
       rw[<-N]at O I;refine⟨_,.slice (some b) len C,w,_,by simp only[Sem.run_bind,a8 (some b) len C h2,Result.andThen_ok];rfl,.inl rfl,O,I,.inr ⟨⟨p.blk,p.off+off,p.size,fun _=>none⟩,b,C,iT hI D _,rfl,by omega,e6,fun j0=>?_⟩,fun j M=>gV hI D _ (.own ((cs.drop off).take (len*es)++[])) j (fun b hb=>M b (by simp at hb ⊢;exact .inr hb))⟩;obtain⟨e1,e2⟩:=h3 j0;exact⟨by rw[e1,Nat.add_zero],by simpa using e2⟩
     ·cases h
    ·split at h
     ·rename_i E;simp only[Bool.and_eq_true,decide_eq_true_eq]at E;omega
     ·cases h
    ·cases h
   ·cases h
  obtain⟨m,rfl⟩:∃m',m=m'+1:=⟨m-1,by omega⟩;clear fin nothing c3;change us.length=(m+1)*n at b0;split at h
  ·
   split at h
   ·rename_i E;simp only[Bool.and_eq_true,decide_eq_true_eq]at E;obtain⟨⟨k1,k2⟩,k3⟩:=E;cases h;cases hs;have a2:=growslice_fits (need:=m+1) (old:=0) (bytes:=by_) (by omega) k1;have g1:¬9223372036854775807<((m:Int)+1):=by omega
    have g2:¬281474976710656<Builtin.nextslicecap (m+1) 0*by_:=by omega
    obtain⟨a0,a7⟩:=hI.same (w':=w.drew) rfl rfl rfl rfl (fun _=>Nat.le_succ _);have hlen:=RvL.length _ _ T;obtain⟨O,I⟩:=uB a7 D a5 new (us.toArray++Builtin.zeroCells zv.cells (grownCap w (m+1) 0 e-(m+1))) e (by
      have:(us.toArray++Builtin.zeroCells zv.cells (grownCap w (m+1) 0 e-(m+1))).toList.take new.length=us:=by simp[<-hlen]
      rw[this];exact RvL.ext a0 _ _ T) (by
      have:(us.toArray++Builtin.zeroCells zv.cells (grownCap w (m+1) 0 e-(m+1))).toList.take new.length=us:=by simp[<-hlen]
      rw[this];exact a1)
    have b1:m+1<=grownCap w (m+1) 0 e:=by simp[grownCap,Question.cut]
    have a3:zv.cells.size=n:=by simpa using c7
    have e0:(grownCap w (m+1) 0 e-(m+1))*n+(m+1)*n=grownCap w (m+1) 0 e*n:=by rw[<-Nat.add_mul];congr 1;omega
    refine⟨_,.slice (some ⟨w.heap.size,0,none⟩) (m+1) (grownCap w (m+1) 0 e),_,_,?_,.inl rfl,a0.trans O,I,.inr ⟨_,_,_,iT hI D _,rfl,b1,rfl,fun _=>⟨rfl,?_⟩⟩,gV hI D _ _⟩
    ·simp[Builtin.append_,run_underlying ht,run_underlying a9,sizeOf,typeInfo,zeroValue,hi,b8,Builtin.lenOf,b9,c0,g1,g2,Question.forced,run_firstCells_none,b7,newRow,grownCap]
    ·simp only[Array.size_append,List.size_toArray,b0,size_zeroCells,a3];omega
   ·cases h
  ·split at h
   ·rename_i h9;simp at h9
   ·cases h
  ·
   rename_i i' off len es;split at h
   ·rename_i cs hH;split at h
    ·rename_i E;simp only[Bool.and_eq_true,decide_eq_true_eq]at E;obtain⟨⟨⟨⟨rfl,k0⟩,k1⟩,k2⟩,k3⟩:=E;cases h;rcases hs with⟨rfl,rfl⟩|⟨p,b,C,a4,rfl,h2,e6,h3⟩
     ·
      have a2:=growslice_fits (need:=m+1) (old:=0) (bytes:=by_) (by omega) (by simpa using k2);have g1:¬9223372036854775807<((m:Int)+1):=by omega
      have g2:¬281474976710656<Builtin.nextslicecap (m+1) 0*by_:=by omega
      obtain⟨a0,a7⟩:=hI.kill i' (w':=w.drew) rfl rfl rfl rfl (fun _=>Nat.le_succ _);have hlen:=RvL.length _ _ T;obtain⟨O,I⟩:=uB a7 (by simpa using D) a5 ((cs.drop off).take (0*es)++new) (us.toArray++Builtin.zeroCells zv.cells (grownCap w (m+1) 0 e-(m+1))) e (by
        have:(us.toArray++Builtin.zeroCells zv.cells (grownCap w (m+1) 0 e-(m+1))).toList.take ((cs.drop off).take (0*es)++new).length=us:=by simp[<-hlen]
        rw[this];simpa using RvL.ext a0 _ _ T) (by
        have:(us.toArray++Builtin.zeroCells zv.cells (grownCap w (m+1) 0 e-(m+1))).toList.take ((cs.drop off).take (0*es)++new).length=us:=by simp[<-hlen]
        rw[this];exact a1)
      have b1:m+1<=grownCap w (m+1) 0 e:=by simp[grownCap,Question.cut]
      have a3:zv.cells.size=es:=by simpa using c7
      have e0:(grownCap w (m+1) 0 e-(m+1))*es+(m+1)*es=grownCap w (m+1) 0 e*es:=by rw[<-Nat.add_mul];congr 1;omega
      have N:aQ H [(i',.dead),(nid,.own ((cs.drop off).take (0*es)++new))]=aQ (H.set i' .dead) [(nid,.own ((cs.drop off).take (0*es)++new))]:=by simp[aQ,upd,aN hH]
      rw[<-N]at O I;refine⟨_,.slice (some ⟨w.heap.size,0,none⟩) (m+1) (grownCap w (m+1) 0 e),_,_,?_,.inl rfl,a0.trans O,I,.inr ⟨_,⟨w.heap.size,0,none⟩,grownCap w (m+1) 0 e,iT hI D _,by rw[Nat.zero_add],by rw[Nat.zero_add];exact b1,rfl,fun _=>⟨rfl,?_⟩⟩,fun j M=>gV hI D _ (.own ((cs.drop off).take (0*es)++new)) j (fun b hb=>M b (by simp at hb ⊢;exact .inr hb))⟩
      ·simp[Builtin.append_,run_underlying ht,run_underlying a9,sizeOf,typeInfo,zeroValue,hi,b8,Builtin.lenOf,b9,c0,g1,g2,Question.forced,run_firstCells_none,b7,newRow,grownCap]
      ·simp only[Array.size_append,List.size_toArray,b0,size_zeroCells,a3];omega
     obtain⟨⟨c,te,J,c8⟩,hC⟩:=hI.ok i' _ p hH a4;have a3:zv.cells.size=es:=by simpa using c7
     obtain⟨os,o1,o2,o3,o4⟩:=sW (n:=len*es) (RvC.drop off cs _ _ hC) (by simp;omega);have a6:∀(w':World),(∀ad,w'.cell? ad=w.cell? ad)->∀b',some b=some b'->∀j u,os[j]?=some u->w'.cell? (b'.add j)=some u:=by
      intro w' e7 b' b4 j u M;cases b4;rw[e7];by_cases c4:0<C
      ·rw[(h3 c4).1];exact o4 j u M
      ·have:os.length=0:=by
        rw[o1];have:len=0:=by omega
        simp[this]
       rw[List.length_eq_zero_iff]at this;subst this;simp at M
     by_cases U:len+(m+1)<=C
     ·
      obtain⟨b4,a2⟩:=h3 (by omega);subst b4;have hK:p.off+off+len*es+us.length<=c.size:=by
       rw[b0,c8];have:len*es+(m+1)*es<=C*es:=by rw[<-Nat.add_mul];exact Nat.mul_le_mul_right _ U
       omega
      have c5:=run_storeCells_at P p.blk (p.off+off+len*es) te us 0 c w J (by simpa using hK) a1;simp only[Nat.add_zero]at c5;have b6:(Builtin.append_ #[t,t'] ty #[.slice (some ⟨p.blk,p.off+off,none⟩) len C,.slice a (m+1) cap]).run P w=
        .ok (.slice (some ⟨p.blk,p.off+off,none⟩) (len+(m+1)) C) (w.setRow p.blk (c.toList.take (p.off+off+len*es)++us++c.toList.drop (p.off+off+len*es+us.length)).toArray):=by
       simp[Builtin.append_,run_underlying ht,run_underlying a9,bK hn,Builtin.lenOf,U,c1,gi,c5]
      obtain⟨O,I⟩:=hI.grow hH a4 rfl (.own ((cs.drop off).take (len*es)++new)) ⟨p.blk,p.off+off,p.size,fun _=>none⟩ rfl D a5 (w':=w.setRow p.blk (c.toList.take (p.off+off+len*es)++us++c.toList.drop (p.off+off+len*es+us.length)).toArray)
       (by simp) (fun b hb=>by simp only[World.setRow,Array.getElem?_modify];rw[if_neg (by omega)]) rfl rfl rfl (fun _=>Nat.le_refl _) (fun O=>by
        refine⟨⟨_,te,setRow_heap w _ c _ te _ J,?_⟩,?_⟩
        ·simp;omega
        ·refine jY _ (os++us) _ _ (RvL.append _ _ _ _ (RvL.ext O _ _ o2) (RvL.ext O _ _ T)) ?_ ?_
         ·intro u hu;rcases List.mem_append.1 hu with hu|hu
          ·exact o3 u hu
          ·exact a1 u hu
         ·intro j u M;simp only[World.cell?,setRow_heap w _ c _ te _ J];simp only[Option.isSome_none,Bool.false_eq_true,if_false,List.getElem?_toArray];have b3:(c.toList.take (p.off+off+len*es)).length=p.off+off+len*es:=by simp;omega
          rw[List.append_assoc];by_cases c9:j<os.length
          ·rw[List.getElem?_append_left c9]at M;rw[List.getElem?_append_left (by rw[b3];omega),List.getElem?_take,if_pos (by omega)];have:=o4 j u M;rw[gi]at this;simp only[World.cell?,J]at this;simpa using this
          ·rw[List.getElem?_append_right (by omega)]at M;rw[List.getElem?_append_right (by rw[b3];omega),b3,show p.off+off+j-(p.off+off+len*es)=j-os.length by omega];rw[List.getElem?_append_left (aN M)];exact M)
      have N:aQ H [(i',.dead),(nid,.own ((cs.drop off).take (len*es)++new))]=upd (H.set i' .dead) nid (.own ((cs.drop off).take (len*es)++new)):=by simp[aQ,upd,aN hH]
      rw[<-N]at O I;refine⟨_,.slice (some ⟨p.blk,p.off+off,none⟩) (len+(m+1)) C,_,_,by simp only[Sem.run_bind,b6,Result.andThen_ok];rfl,.inl rfl,O,I,.inr ⟨_,_,_,iT hI D _,rfl,U,rfl,fun _=>⟨rfl,?_⟩⟩,fun j M=>gV hI D _ (.own ((cs.drop off).take (len*es)++new)) j (fun b hb=>M b (by simp at hb ⊢;exact .inr hb))⟩;simpa using a2
     ·
      have a2:=growslice_fits (need:=len+(m+1)) (old:=C) (bytes:=by_) (by omega) k2;have g1:¬9223372036854775807<((len:Int)+((m:Int)+1)):=by omega
      have g2:¬281474976710656<Builtin.nextslicecap (len+(m+1)) C*by_:=by omega
      obtain⟨a0,a7⟩:=Inv.se hI hH a4 rfl .dead (w':=w.drew) rfl (fun _ _=>rfl) rfl rfl rfl (fun _=>Nat.le_succ _) (fun _=>trivial);have hlen:=RvL.length _ _ T;have e8:=jt (P:=P) (cap:=C) (a:=some b) w.drew o1 (fun e=>by cases e) (a6 w.drew (fun _=>by simp));have e9:=RvL.length _ _ o2;have g8:(os.toArray++us.toArray++Builtin.zeroCells zv.cells (grownCap w (len+(m+1)) C e-(len+(m+1)))).toList.take ((cs.drop off).take (len*es)++new).length=os++us:=by
       simp only[Array.toList_append,List.length_append];rw[<-e9,<-hlen,<-List.length_append,List.take_left]
      obtain⟨O,I⟩:=uB a7 (by simpa using D) a5 ((cs.drop off).take (len*es)++new) (os.toArray++us.toArray++Builtin.zeroCells zv.cells (grownCap w (len+(m+1)) C e-(len+(m+1)))) e
       (by rw[g8];exact RvL.ext a0 _ _ (RvL.append _ _ _ _ o2 T)) (by
        rw[g8];intro u hu;rcases List.mem_append.1 hu with hu|hu
        ·exact o3 u hu
        ·exact a1 u hu)
      have b1:len+(m+1)<=grownCap w (len+(m+1)) C e:=by simp[grownCap,Question.cut]
      have e0:(grownCap w (len+(m+1)) C e-(len+(m+1)))*es+(len*es+(m+1)*es)=grownCap w (len+(m+1)) C e*es:=by
       rw[<-Nat.add_mul,<-Nat.add_mul];congr 1;omega
      have N:aQ H [(i',.dead),(nid,.own ((cs.drop off).take (len*es)++new))]=aQ (H.set i' .dead) [(nid,.own ((cs.drop off).take (len*es)++new))]:=by simp[aQ,upd,aN hH]
      rw[<-N]at O I;refine⟨_,.slice (some ⟨w.heap.size,0,none⟩) (len+(m+1)) (grownCap w (len+(m+1)) C e),_,_,?_,.inl rfl,a0.trans O,I,.inr ⟨_,_,_,iT hI D _,rfl,b1,rfl,fun _=>⟨rfl,?_⟩⟩,fun j M=>gV hI D _ (.own ((cs.drop off).take (len*es)++new)) j (fun b hb=>M b (by simp at hb ⊢;exact .inr hb))⟩
      ·simp[Builtin.append_,run_underlying ht,run_underlying a9,sizeOf,typeInfo,zeroValue,hi,b8,Builtin.lenOf,b9,c0,g1,g2,U,Question.forced,e8,b7,newRow,grownCap];congr 2;apply Array.ext';simp[List.append_assoc]
      ·simp only[Array.size_append,List.size_toArray,o1,b0,size_zeroCells,a3];omega
    ·cases h
   ·
    rename_i rs hH;split at h
    ·rename_i E;simp only[Bool.and_eq_true,decide_eq_true_eq]at E;obtain⟨⟨⟨⟨⟨⟨rfl,rfl⟩,rfl⟩,k1⟩,k2⟩,k3⟩,_⟩:=E;cases h;have e3:us.length=m+1:=by omega
     have hlen:=RvL.length _ _ T;have a3:zv.cells.size=1:=by simpa using c7
     have N:aQ H [(i',.dead),(nid,.rows (rs.take len++new.map .av))]=upd (H.set i' .dead) nid (.rows (rs.take len++new.map .av)):=by simp[aQ,upd,aN hH]
     have Y:∀{k c6 es':Nat} {cs':List AV},(rs.take len++new.map RC.av)[k]?=some (.row c6 es' cs')->rs[k]?=some (.row c6 es' cs'):=by
      intro k c6 es' cs' h;by_cases hk:k<(rs.take len).length
      ·rw[List.getElem?_append_left hk,List.getElem?_take]at h;split at h
       ·exact h
       ·cases h
      ·rw[List.getElem?_append_right (by omega),List.getElem?_map]at h;cases hn:new[k-(rs.take len).length]? with
       |none=>rw[hn]at h;cases h
       |some z=>rw[hn]at h;cases h
     have cells:∀(w':World) (mu':Nat->Prop) (π':List (Option PB)) (os:List Value) (ss:Nat->Option (Nat×Nat×Nat)) (nb no:Nat),Ext B w w' (aG out π H) mu' π π'->os.length=len->
       (∀j u,os[j]?=some u->∃x,rs[j]?=some x/\RcV w (aG out π H) π (ss j) x u)->(∀k len es cs q,rs[k]?=some (RC.row len es cs)->ss k=some q->w'.heap[q.1]?=w.heap[q.1]?)->
       (∀j u,(os++us)[j]?=some u->w'.cell? ⟨nb,no+j,none⟩=some u)->RvW w' mu' π' (rs.take len++new.map .av) ss nb no:=by
      intro w' mu' π' os ss nb no O e9 j1 hq hc;refine RvW.of _ _ _ _ fun k x hk=>?_
      by_cases j2:k<len
      ·have j3:k<(rs.take len).length:=by simp;omega
       rw[List.getElem?_append_left j3,List.getElem?_take,if_pos j2]at hk;obtain⟨u,hu⟩:∃u,os[k]?=some u:=⟨os[k],geT (by omega)⟩;obtain⟨x',x1,x2⟩:=j1 k u hu;rw[hk]at x1;cases x1;refine⟨u,hc k u (by rw[List.getElem?_append_left (by omega)];exact hu),x2.ext O fun len es cs q e1 e2=>?_⟩;subst e1;exact hq k len es cs q hk e2
      ·have b3:(rs.take len).length=len:=by simp;omega
       rw[List.getElem?_append_right (by omega),b3,List.getElem?_map]at hk;cases hn:new[k-len]? with
       |none=>rw[hn]at hk;cases hk
       |some A=>
        rw[hn]at hk;cases hk;obtain⟨u,u1,u2⟩:=RvL.get _ _ _ _ T hn;exact⟨u,hc k u (by rw[List.getElem?_append_right (by omega),e9];exact u1),a1 u (List.mem_of_getElem? u1),Rv.ext O A u u2⟩
     rcases hs with⟨rfl,rfl⟩|⟨p,b,C,a4,rfl,h2,e6,h3⟩
     ·
      have a2:=growslice_fits (need:=m+1) (old:=0) (bytes:=by_) (by omega) (by simpa using k2);have g1:¬9223372036854775807<((m:Int)+1):=by omega
      have g2:¬281474976710656<Builtin.nextslicecap (m+1) 0*by_:=by omega
      obtain⟨a0,a7⟩:=hI.kill i' (w':=w.drew) rfl rfl rfl rfl (fun _=>Nat.le_succ _);have g9:∀b',(Blk.rows (rs.take 0++new.map .av)).owns ⟨w.heap.size,0,(us.toArray++Builtin.zeroCells zv.cells (grownCap w (m+1) 0 e-(m+1))).size,fun _=>none⟩ b'->w.heap.size=b':=by
       rintro b' (h|⟨k,l',e',c',q,_,h,_⟩)
       ·exact h
       ·cases h
      have g0:=qh a7 (.cells (us.toArray++Builtin.zeroCells zv.cells (grownCap w (m+1) 0 e-(m+1))) e) (.rows (rs.take 0++new.map .av)) ⟨w.heap.size,0,(us.toArray++Builtin.zeroCells zv.cells (grownCap w (m+1) 0 e-(m+1))).size,fun _=>none⟩ rfl (by simpa using D) a5 g9;have h4:=a7.alloc (.cells (us.toArray++Builtin.zeroCells zv.cells (grownCap w (m+1) 0 e-(m+1))) e) (.rows (rs.take 0++new.map .av)) ⟨w.heap.size,0,(us.toArray++Builtin.zeroCells zv.cells (grownCap w (m+1) 0 e-(m+1))).size,fun _=>none⟩ rfl (by simpa using D) a5
       ⟨⟨_,e,(by show(w.heap.push _)[w.heap.size]?=_;simp),rfl⟩,cells _ _ _ [] (fun _=>none) _ _ (a0.trans g0) rfl (fun j u h=>by simp at h) (fun k l' e' c' q _ h=>by cases h) (fun j u M=>by
        show((w.drew.alloc _).cell? ⟨w.drew.heap.size,0+j,none⟩)=some u;rw[Nat.zero_add,World.cell?_alloc_new];have M:us[j]?=some u:=by simpa using M
        have:=aN M;simp[Array.getElem?_append,this,M];simpa using(List.getElem?_eq_some_iff.1 M).2),And.intro (fun k l' e' c' q _ h=>by cases h) (fun k k' l' e' l2 e2 c' c2 q q' _ _ _ h=>by cases h)⟩ g9
      rw[<-N]at g0 h4;have b1:m+1<=grownCap w (m+1) 0 e:=by simp[grownCap,Question.cut]
      refine⟨_,.slice (some ⟨w.heap.size,0,none⟩) (m+1) (grownCap w (m+1) 0 e),_,_,?_,.inl rfl,a0.trans g0,h4,.inr ⟨_,⟨w.heap.size,0,none⟩,grownCap w (m+1) 0 e,iT hI D _,by rw[Nat.zero_add],by rw[Nat.zero_add];exact b1,rfl,fun _=>⟨rfl,?_⟩⟩,fun j M=>gV hI D _ (.rows (rs.take 0++new.map .av)) j (fun b hb=>M b (by simp at hb ⊢;exact .inr hb))⟩
      ·simp[Builtin.append_,run_underlying ht,run_underlying a9,sizeOf,typeInfo,zeroValue,hi,b8,Builtin.lenOf,b9,c0,g1,g2,Question.forced,run_firstCells_none,b7,newRow,grownCap]
      ·simp only[Array.size_append,List.size_toArray,e3,size_zeroCells,a3];omega
     obtain⟨⟨c,te,J,c8⟩,hC,h5,h6⟩:=hI.ok i' _ p hH a4;obtain⟨os,o1,o3,o4⟩:=RvW.Je hC len k1;have a6:∀(w':World),(∀ad,w'.cell? ad=w.cell? ad)->∀b',some b=some b'->∀j u,os[j]?=some u->w'.cell? (b'.add j)=some u:=by
      intro w' e7 b' b4 j u M;cases b4;rw[e7];by_cases c4:0<C
      ·rw[(h3 c4).1,gi];exact(o4 j u M).1
      ·have:os.length=0:=by omega
       rw[List.length_eq_zero_iff]at this;subst this;simp at M
     by_cases U:len+(m+1)<=C
     ·
      obtain⟨b4,a2⟩:=h3 (by omega);subst b4;have hK:p.off+0+len*1+us.length<=c.size:=by omega
      have c5:=run_storeCells_at P p.blk (p.off+0+len*1) te us 0 c w J (by simpa using hK) a1;simp only[Nat.add_zero]at c5;have b6:(Builtin.append_ #[t,t'] ty #[.slice (some ⟨p.blk,p.off+0,none⟩) len C,.slice a (m+1) cap]).run P w=
        .ok (.slice (some ⟨p.blk,p.off+0,none⟩) (len+(m+1)) C) (w.setRow p.blk (c.toList.take (p.off+len*1)++us++c.toList.drop (p.off+len*1+us.length)).toArray):=by
       simp[Builtin.append_,run_underlying ht,run_underlying a9,bK hn,Builtin.lenOf,U,c1,gi];have h7:(storeCells ⟨p.blk,p.off+len,none⟩ us).run P w=.ok () (w.setRow p.blk (c.toList.take (p.off+len)++(us++c.toList.drop (p.off+len+us.length))).toArray):=by simpa using c5
       rw[h7];rfl
      obtain⟨O,I⟩:=hI.grow hH a4 rfl (.rows (rs.take len++new.map .av)) ⟨p.blk,p.off,p.size,p.subs⟩ rfl D a5 (w':=w.setRow p.blk (c.toList.take (p.off+len*1)++us++c.toList.drop (p.off+len*1+us.length)).toArray)
       (by simp) (fun b hb=>by simp only[World.setRow,Array.getElem?_modify];rw[if_neg (by omega)]) rfl rfl rfl (fun _=>Nat.le_refl _) (fun O=>by
        refine⟨⟨_,te,setRow_heap w _ c _ te _ J,?_⟩,cells _ _ _ os p.subs _ _ O o1 (fun j u M=>(o4 j u M).2) (fun k l' e' c' q g1 g2=>?_) ?_,fun k l' e' c' q g1 g2=>h5 k l' e' c' q (Y g1) g2,fun k k' l' e' l2 e2 c' c2 q q' g5 g1 g2 g3 g4=>h6 k k' l' e' l2 e2 c' c2 q q' g5 (Y g1) (Y g2) g3 g4⟩
        ·simp;omega
        ·have:=h5 k l' e' c' q g1 g2;simp only[World.setRow,Array.getElem?_modify];rw[if_neg (by omega)]
        ·intro j u M;simp only[World.cell?,setRow_heap w _ c _ te _ J];simp only[Option.isSome_none,Bool.false_eq_true,if_false,List.getElem?_toArray];have b3:(c.toList.take (p.off+len*1)).length=p.off+len*1:=by simp;omega
         rw[List.append_assoc];by_cases c9:j<os.length
         ·rw[List.getElem?_append_left c9]at M;rw[List.getElem?_append_left (by rw[b3];omega),List.getElem?_take,if_pos (by omega)];have:=(o4 j u M).1;simp only[World.cell?,J]at this;simpa using this
         ·rw[List.getElem?_append_right (by omega)]at M;rw[List.getElem?_append_right (by rw[b3];omega),b3,show p.off+j-(p.off+len*1)=j-os.length by omega];rw[List.getElem?_append_left (aN M)];exact M) (by
        rintro b' (h|⟨k,l',e',c',q,g1,g2,g3⟩)
        ·exact .inl h
        ·exact .inr ⟨k,l',e',c',q,Y g1,g2,g3⟩)
      rw[<-N]at O I;refine⟨_,.slice (some ⟨p.blk,p.off+0,none⟩) (len+(m+1)) C,_,_,by simp only[Sem.run_bind,b6,Result.andThen_ok];rfl,.inl rfl,O,I,.inr ⟨_,_,_,iT hI D _,rfl,U,rfl,fun _=>⟨rfl,?_⟩⟩,fun j M=>gV hI D _ (.rows (rs.take len++new.map .av)) j (fun b hb=>M b (by simp at hb ⊢;exact .inr hb))⟩;simpa using a2
     ·
      have a2:=growslice_fits (need:=len+(m+1)) (old:=C) (bytes:=by_) (by omega) k2;have g1:¬9223372036854775807<((len:Int)+((m:Int)+1)):=by omega
      have g2:¬281474976710656<Builtin.nextslicecap (len+(m+1)) C*by_:=by omega
      have e8:=jt (P:=P) (n:=1) (m:=len) (cap:=C) (a:=some b) w.drew (by omega) (fun e=>by cases e) (a6 w.drew (fun _=>by simp));obtain⟨O,I⟩:=hI.move hH a4 rfl (.rows (rs.take len++new.map .av)) ⟨w.heap.size,0,(os.toArray++us.toArray++Builtin.zeroCells zv.cells (grownCap w (len+(m+1)) C e-(len+(m+1)))).size,p.subs⟩ D a5
       (w':=w.drew.alloc (.cells (os.toArray++us.toArray++Builtin.zeroCells zv.cells (grownCap w (len+(m+1)) C e-(len+(m+1)))) e)) (by simp) (fun b' b4 _=>by simp only[World.alloc,World.drew,Array.getElem?_push];rw[if_neg (by omega)]) rfl rfl rfl (fun _=>Nat.le_succ _) (by
        rintro b' (h|⟨k,l',e',c',q,g1,g2,g3⟩)
        ·simp only at h;subst h;right;simp
        ·exact .inl (.inr ⟨k,l',e',c',q,Y g1,g2,g3⟩)) (fun O=>by
        refine⟨⟨_,e,(by show(w.heap.push _)[w.heap.size]?=_;simp),rfl⟩,cells _ _ _ os p.subs _ _ O o1 (fun j u M=>(o4 j u M).2) (fun k l' e' c' q g1 g2=>?_) ?_,fun k l' e' c' q g1 g2=>?_,fun k k' l' e' l2 e2 c' c2 q q' g5 g1 g2 g3 g4=>h6 k k' l' e' l2 e2 c' c2 q q' g5 (Y g1) (Y g2) g3 g4⟩
        ·have:=(hI.baseO i' _ p q.1 hH a4 (.inr ⟨k,l',e',c',q,g1,g2,rfl⟩)).2;simp only[World.alloc,World.drew,Array.getElem?_push];rw[if_neg (by omega)]
        ·intro j u M;show((w.drew.alloc _).cell? ⟨w.drew.heap.size,0+j,none⟩)=some u;rw[Nat.zero_add,World.cell?_alloc_new];have c9:=aN M;have hl:(os.toArray++us.toArray)[j]?=some u:=by
          have e:os.toArray++us.toArray=(os++us).toArray:=by simp
          rw[e,List.getElem?_toArray];exact M
         rw[Array.getElem?_append,if_pos (by have:=(Array.getElem?_eq_some_iff.1 hl).1;exact this)];exact hl
        ·have:=(hI.baseO i' _ p q.1 hH a4 (.inr ⟨k,l',e',c',q,Y g1,g2,rfl⟩)).2;simp only;omega)
      have b1:len+(m+1)<=grownCap w (len+(m+1)) C e:=by simp[grownCap,Question.cut]
      rw[<-N]at O I;refine⟨_,.slice (some ⟨w.heap.size,0,none⟩) (len+(m+1)) (grownCap w (len+(m+1)) C e),_,_,?_,.inl rfl,O,I,.inr ⟨_,_,_,iT hI D _,rfl,b1,rfl,fun _=>⟨rfl,?_⟩⟩,fun j M=>gV hI D _ (.rows (rs.take len++new.map .av)) j (fun b hb=>M b (by simp at hb ⊢;exact .inr hb))⟩
      ·simp[Builtin.append_,run_underlying ht,run_underlying a9,sizeOf,typeInfo,zeroValue,hi,b8,Builtin.lenOf,b9,c0,g1,g2,U,Question.forced,e8,b7,newRow,grownCap];congr 2;apply Array.ext';simp[List.append_assoc]
      ·simp only[Array.size_append,List.size_toArray,o1,e3,size_zeroCells,a3];omega
    ·cases h
   ·cases h
  ·cases h
end
def tU(P:Program):Prop:=∀(f:Nat) (fn:Func),P.funcs[f]?=some fn->fn.name≠ "runtime.NumGoroutine"
section
variable{P:Program}{out:Nat->Prop}{B:Nat->Prop}{w:World}{π:List (Option PB)}{H:List Blk}
theorem Ct(hI:Inv out B w π H){at_:Array TypeId}{t e ty:TypeId}{n:Nat}{d x:AV}{vd vx:Value}{r:bj}(h0:at_[0]?=some t)(ht:P.underlying t=some (.slice e))(hn:fO P e=some n)
  (hd:Rv w (aG out π H) π d vd) (hx:Rv w (aG out π H) π x vx) (h:xw H n d x=some r):cz P out B w π H (do pure (.value (<-Builtin.copy_ at_ ty #[vd,vx]))) r:=by
 unfold xw at h;split at h
 ·cases h
 rename_i new m hc;obtain⟨a,cap,rfl,J,a5,us,M,C,N,E⟩:=qa hI hx hc;split at h
 rotate_left
 ·cases h
 rename_i i off len es;split at h
 rotate_left
 ·cases h
 rename_i cs O;split at h
 rotate_left
 ·cases h
 rename_i z;cases h;simp only[Bool.and_eq_true,decide_eq_true_eq]at z;obtain⟨rfl,hle⟩:=z;have T:Nat.min m len<=m:=Nat.min_le_left _ _;have a0:Nat.min m len<=len:=Nat.min_le_right _ _;have a6:Nat.min m len*es<=m*es:=Nat.mul_le_mul_right _ T;have a7:Nat.min m len*es<=len*es:=Nat.mul_le_mul_right _ a0;have q:aQ H [(i,.own cs)]=H:=by
  simp only[aQ,upd,aN O,if_true];apply List.ext_getElem?;intro j;rw[List.getElem?_set];split
  ·rename_i a1;subst a1;rw[if_pos (aN O)];exact O.symm
  ·rfl
 have U:∀k,k<=m->(Builtin.firstCells es k (.slice a m cap)).run P w=.ok (us.take (k*es)).toArray w:=by
  intro k hk;cases a with
  |none=>
   have:=J rfl;subst this;have:us=[]:=by rw[<-List.length_eq_zero_iff,M];simp
   subst this;simp[Builtin.firstCells]
  |some b=>
   refine run_firstCells_some w es k b m cap _ ?_ fun j u hj=>E b rfl j u ?_
   ·rw[List.length_take,M];exact Nat.min_eq_left (Nat.mul_le_mul_right _ hk)
   ·rw[List.getElem?_take]at hj;split at hj
    ·exact hj
    ·cases hj
 rcases hd with⟨rfl,rfl⟩|⟨p,ad,D,hp,rfl,a8,a9,Y⟩
 ·
  have e0:Nat.min m 0=0:=Nat.min_zero m;have I:=U 0 (Nat.zero_le _);simp only[e0,Nat.zero_mul,List.take_zero,setCells]at I ⊢;refine⟨.value (.int .i64 0),.int .i64 0,w,π,?_,.inl rfl,?_,?_,rfl,fun _ _=>rfl⟩
  ·simp[Builtin.copy_,h0,run_underlying ht,bK hn,Builtin.lenOf,e0,I,goInt]
  ·rw[q];exact Ext.refl _ _ _
  ·rw[q];exact hI
 ·have I:=U _ T;by_cases hz:Nat.min m len*es=0
  ·rw[hz]at I;simp only[hz,List.take_zero,setCells]at I ⊢;refine⟨.value (.int .i64 (Nat.min m len:Nat)),.int .i64 (Nat.min m len:Nat),w,π,?_,.inl rfl,?_,?_,rfl,fun _ _=>rfl⟩
   ·simp only[Builtin.copy_]at*;simp[h0,run_underlying ht,bK hn,Builtin.lenOf,I,storeCells,goInt]
   ·rw[q];exact Ext.refl _ _ _
   ·rw[q];exact hI
  ·have a2:0<D:=by
    rcases Nat.eq_zero_or_pos D with h|h
    ·have:Nat.min m len=0:=by omega
     rw[this]at hz;simp at hz
    ·exact h
   obtain⟨a3,_⟩:=Y a2;obtain⟨ab,ao,b0⟩:=ad;have a4:RvL w (aG out π H) π (new.take (Nat.min m len*es)) (us.take (Nat.min m len*es)):=RvL.take _ _ _ C;have b1:=RvL.length _ _ C;obtain⟨w',r1,r2,r3⟩:=pg (P:=P) hp (new.take (Nat.min m len*es)) (us.take (Nat.min m len*es)) 0 off cs w H hI O a4 (fun v hv=>N v (List.mem_of_mem_take hv)) (by rw[List.length_take];omega);have hu:aQ H [(i,.own (setCells cs off (new.take (Nat.min m len*es))))]=H.set i (.own (setCells cs off (new.take (Nat.min m len*es)))):=by simp[aQ,upd,aN O]
   rw[Nat.add_zero]at r2 r3;refine⟨.value (.int .i64 (Nat.min m len:Nat)),.int .i64 (Nat.min m len:Nat),w',π,?_,.inl rfl,by rw[hu];exact r2,by rw[hu];exact r3,rfl,fun _ _=>rfl⟩;rw[a3];simp only[Builtin.copy_]at*;simp[h0,run_underlying ht,bK hn,Builtin.lenOf,I,r1,goInt]
theorem yy(I:Inv out B w π H){nid:Nat}(m:nid<=H.length)(J:∀q,π[nid]?≠some (some q)){t t' e ty:TypeId}{kk:IntKind}{n by_:Nat}{z:List AV}{s x:AV}{vs vx:Value}{r:bj}(ht:P.underlying t=some (.slice e))(N:P.underlying t'=some (.int kk))
  (hn:fO P e=some n) (hb:qA P e=some by_) (hz:ml P e=some z) (hs:Rv w (aG out π H) π s vs) (hx:Rv w (aG out π H) π x vx) (h:u6 nid n by_ z s x=some r):
  cz P out B w π H (do pure (.value (<-Builtin.append_ #[t,t'] ty #[vs,vx]))) r:=by
 obtain⟨j,i,O,T,b1,rfl⟩:=sb hz w;have U:i.size=n:=by simpa [fO,O]using hn
 have Y:i.bytes=by_:=by simpa [qA,O]using hb
 unfold u6 at h;split at h
 ·rename_i k;split at h
  ·rename_i p;simp only[Bool.and_eq_true,decide_eq_true_eq]at p;obtain⟨⟨⟨⟨⟨k0,k1⟩,k2⟩,k3⟩,k4⟩,k5⟩:=p;cases h;cases hs;cases hx;obtain⟨M,rfl⟩:∃M:Nat,k=(M:Int):=⟨k.toNat,by omega⟩;have hM:0<M:=by omega
   have a0:¬M=0:=by omega
   have hk:((M:Int)).toNat=M:=by omega
   rw[hk]at k2 ⊢;have b3:=growslice_fits (need:=M) (old:=0) (bytes:=by_) (by omega) k2;have g1:¬9223372036854775807<(M:Int):=by omega
   have g2:¬281474976710656<Builtin.nextslicecap M 0*by_:=by omega
   have hw:IntKind.i64.wrap ((M:Int))=(M:Int):=by
    simp[IntKind.wrap,IntKind.bits,IntKind.signed];omega
   have g3:¬(2:Int)^48<(M:Int)*(by_:Int):=by
    rw[<-Int.natCast_mul];omega
   obtain⟨a1,a2⟩:=I.same (w':=w.drew) rfl rfl rfl rfl (fun _=>Nat.le_succ _);have C:j.cells.size=n:=by simpa using k4
   have a3:(Builtin.zeroCells j.cells M).toList=(List.replicate M j.cells.toList).flatten:=mB j.cells M (by omega);have D:∀(w0:World) (a4:Nat->Prop) (π0:List (Option PB)),RvL w0 a4 π0 (dB (j.cells.toList.map .at) M) ((List.replicate M j.cells.toList).flatten):=fun _ _ _=>sK _ _
   have hlen:=RvL.length _ _ (D w (aG out π H) π);have E:(Builtin.zeroCells j.cells M++Builtin.zeroCells j.cells (grownCap w M 0 e-M)).toList.take (dB (j.cells.toList.map .at) M).length=(List.replicate M j.cells.toList).flatten:=by
    rw[<-hlen,Array.toList_append,a3,List.take_left'];rfl
   obtain⟨hE,a5⟩:=uB a2 m J (dB (j.cells.toList.map .at) M) (Builtin.zeroCells j.cells M++Builtin.zeroCells j.cells (grownCap w M 0 e-M)) e (by rw[E];exact D _ _ _) (by rw[E];exact kW (all_zero k5) _);have a6:M<=grownCap w M 0 e:=by simp[grownCap,Question.cut]
   have e0:(grownCap w M 0 e-M)*n+M*n=grownCap w M 0 e*n:=by rw[<-Nat.add_mul];congr 1;omega
   refine⟨_,.slice (some ⟨w.heap.size,0,none⟩) M (grownCap w M 0 e),_,_,?_,.inl rfl,a1.trans hE,a5,.inr ⟨_,_,_,iT I m _,rfl,a6,rfl,fun _=>⟨rfl,?_⟩⟩,gV I m _ _⟩
   ·have a7:¬M*n=0:=by
     intro h0;rcases Nat.mul_eq_zero.1 h0 with h0|h0<;>omega
    have a8:¬n=0:=by omega
    have a9:¬281474976710656<(M:Int)*(by_:Int):=by rw[<-Int.natCast_mul];omega
    have g4:M<=9223372036854775807:=by omega
    have b0:¬(M:Int)<0:=by omega
    simp only[Builtin.append_];simp[run_underlying ht,run_underlying N,sizeOf,typeInfo,zeroValue,O,T,asInt,asIntOf,hw,b0,a9,a0,a8,g4,U,Y,g1,g2,a7,Question.forced,run_firstCells_none,newRow,grownCap]
   ·simp only[Array.size_append,size_zeroCells,C];omega
  ·cases h
 ·cases h
theorem Ba(U:Inv out B w π H){at_:Array TypeId}{t e ty:TypeId}{n:Nat}{z:List AV}{d:AV}{vd:Value}{r:bj}(Y:at_[0]?=some t)(ht:P.underlying t=some (.slice e))(hn:fO P e=some n)(hz:ml P e=some z)
  (hd:Rv w (aG out π H) π d vd) (h:tP H n z d=some r):cz P out B w π H (do pure (.value (<-Builtin.clear_ at_ ty #[vd]))) r:=by
 obtain⟨C,i0,hi,a8,I,rfl⟩:=sb hz w;unfold tP at h;split at h
 rotate_left
 ·cases h
 rename_i i off len es;split at h
 rotate_left
 ·cases h
 rename_i cs J;split at h
 rotate_left
 ·cases h
 rename_i D;cases h;simp only[Bool.and_eq_true,decide_eq_true_eq]at D;obtain⟨⟨⟨⟨rfl,hle⟩,a0⟩,E⟩,a1⟩:=D;have q:aQ H [(i,.own cs)]=H:=by
  simp only[aQ,upd,aN J,if_true];apply List.ext_getElem?;intro j;rw[List.getElem?_set];split
  ·rename_i a2;subst a2;rw[if_pos (aN J)];exact J.symm
  ·rfl
 have a3:C.cells.size=es:=by simpa using a0
 rcases hd with⟨rfl,rfl⟩|⟨p,ad,M,hp,rfl,a9,b0,N⟩
 ·simp only[dB,setCells];refine⟨.value (.tuple #[]),.tuple #[],w,π,?_,.inl rfl,?_,?_,rfl,fun _ _=>rfl⟩
  ·simp[Builtin.clear_,Y,run_underlying ht]
  ·rw[q];exact Ext.refl _ _ _
  ·rw[q];exact U
 ·cases len with
  |zero=>
   simp only[dB,setCells];refine⟨.value (.tuple #[]),.tuple #[],w,π,?_,.inl rfl,?_,?_,rfl,fun _ _=>rfl⟩
   ·simp[Builtin.clear_,Y,run_underlying ht]
   ·rw[q];exact Ext.refl _ _ _
   ·rw[q];exact U
  |succ m=>
   have a4:0<M:=by omega
   obtain⟨a5,_⟩:=N a4;obtain⟨ab,ao,b1⟩:=ad;have O:(Builtin.zeroCells C.cells (m+1)).toList=(List.replicate (m+1) C.cells.toList).flatten:=mB C.cells (m+1) (by omega);have T:RvL w (aG out π H) π (dB ((C.cells.toList.map .at).map wkN) (m+1)) ((List.replicate (m+1) C.cells.toList).flatten):=xE _ _;have a6:=RvL.length _ _ T;have a7:(dB ((C.cells.toList.map .at).map wkN) (m+1)).length=(m+1)*es:=by rw[<-a6,<-O,Array.length_toList,size_zeroCells,a3]
   obtain⟨w',r1,r2,r3⟩:=pg (P:=P) hp (dB ((C.cells.toList.map .at).map wkN) (m+1)) ((List.replicate (m+1) C.cells.toList).flatten) 0 off cs w H U J T (kW (all_zero E) _) (by omega);have hu:aQ H [(i,.own (setCells cs off (dB ((C.cells.toList.map .at).map wkN) (m+1))))]=H.set i (.own (setCells cs off (dB ((C.cells.toList.map .at).map wkN) (m+1)))):=by simp[aQ,upd,aN J]
   rw[Nat.add_zero]at r2 r3;refine⟨.value (.tuple #[]),.tuple #[],w',π,?_,.inl rfl,by rw[hu];exact r2,by rw[hu];exact r3,rfl,fun _ _=>rfl⟩;rw[a5];rw[<-O]at r1;simp[Builtin.clear_,Y,run_underlying ht,I,r1]
theorem zU(j:tU P){f:FuncId}(h:xk P f=true)(args:Array Value)(w:World):(callFunc f args).run P w=.ok (.enter f args) w:=by
 unfold xk at h;split at h
 ·rename_i fn m;have p:=j f fn m;have hb:¬fn.body=none:=by intro e;simp[e]at h
  simp[callFunc,m,p,hb]
 ·cases h
theorem xM(hI:Inv out B w π H){nid:Nat}(D:nid<=H.length)(U:∀q,π[nid]?≠some (some q)){b:Builtin}{at_:Array TypeId}{ty:TypeId}{consts:Array Bool}{args:List AV}{vs:List Value}{r:bj}(J:RvL w (aG out π H) π args vs)(h:nA P H nid b at_ ty args=some r):
  cz P out B w π H (builtin b at_ ty consts vs.toArray) r:=by
 unfold nA at h;split at h
 ·rename_i x;obtain⟨v,M,rfl,hx,rfl⟩:=J;split at h
  ·rename_i t E;refine jJ h fun A I=>?_
   have:∃u,(Builtin.len_ at_ ty #[v]).run P w=.ok u w/\Rv w (aG out π H) π A u:=by
    unfold II at I;split at I
    ·rename_i e nl cs len hu;cases I;rcases hx with⟨_,rfl,_,rfl⟩|⟨b,o,cap,rfl,_⟩|⟨rfl,_,a,cap,rfl⟩
     rotate_left 2
     ·exact⟨.int .i64 0,by simp[Builtin.len_,E,run_underlying hu,goInt],rfl⟩
     ·exact⟨.int .i64 0,by simp[Builtin.len_,E,run_underlying hu,goInt],rfl⟩
     ·exact⟨.int .i64 len,by simp[Builtin.len_,E,run_underlying hu,goInt],rfl⟩
    ·rename_i e b off len es hu;cases I;rcases hx with⟨rfl,rfl⟩|⟨p,a,cap,_,rfl,_⟩
     ·exact⟨.int .i64 0,by simp[Builtin.len_,E,run_underlying hu,goInt],rfl⟩
     ·exact⟨.int .i64 len,by simp[Builtin.len_,E,run_underlying hu,goInt],rfl⟩
    ·rename_i e hu;cases I;cases hx;exact⟨.int .i64 0,by simp[Builtin.len_,E,run_underlying hu,goInt],rfl⟩
    ·rename_i s hu;cases I;cases hx;exact⟨.int .i64 s.size,by simp[Builtin.len_,E,run_underlying hu,goInt],rfl⟩
    ·rename_i y n e hu;cases I;exact⟨.int .i64 n,by simp[Builtin.len_,E,run_underlying hu,goInt],rfl⟩
    ·cases I
   obtain⟨u,h1,h2⟩:=this;exact cz.value h1 h2
  ·cases h
 ·rename_i s x;obtain⟨v,M,rfl,hs,u,Y,rfl,hx,rfl⟩:=J;split at h
  ·rename_i t t' h1 h2;split at h
   ·rename_i e e' hu N;split at h
    ·rename_i n by_ z O hb hz;split at h
     ·rename_i a0;have:=Ad hI D U (ty:=ty) hu N O hb hz (by simpa using a0) hs hx h;have e1:(Builtin.append_ at_ ty #[v,u]).run P=(Builtin.append_ #[t,t'] ty #[v,u]).run P:=by
       funext w;simp only[Builtin.append_,h1,h2];rfl
      have e2:(do pure (Next.value (<-Builtin.append_ at_ ty #[v,u])):Sem Next).run P=(do pure (Next.value (<-Builtin.append_ #[t,t'] ty #[v,u])):Sem Next).run P:=by
       funext w;simp only[Sem.run_bind,e1]
      cases r with
      |pure A=>obtain⟨T,y,j,m⟩:=this;exact⟨T,y,by rw[<-e2]at j;exact j,m⟩
      |eff A H'=>obtain⟨T,y,w',π',j,m⟩:=this;exact⟨T,y,w',π',by rw[<-e2]at j;exact j,m⟩
      |call f as=>obtain⟨y,j,m⟩:=this;exact⟨y,by rw[<-e2]at j;exact j,m⟩
     ·cases h
    ·cases h
   ·rename_i e kk hu N;split at h
    ·rename_i n by_ z O hb hz;have:=yy hI D U (ty:=ty) hu N O hb hz hs hx h;have e1:(Builtin.append_ at_ ty #[v,u]).run P=(Builtin.append_ #[t,t'] ty #[v,u]).run P:=by
      funext w;simp only[Builtin.append_,h1,h2];rfl
     have e2:(do pure (Next.value (<-Builtin.append_ at_ ty #[v,u])):Sem Next).run P=(do pure (Next.value (<-Builtin.append_ #[t,t'] ty #[v,u])):Sem Next).run P:=by
      funext w;simp only[Sem.run_bind,e1]
     cases r with
     |pure A=>obtain⟨T,y,j,m⟩:=this;exact⟨T,y,by rw[<-e2]at j;exact j,m⟩
     |eff A H'=>obtain⟨T,y,w',π',j,m⟩:=this;exact⟨T,y,w',π',by rw[<-e2]at j;exact j,m⟩
     |call f as=>obtain⟨y,j,m⟩:=this;exact⟨y,by rw[<-e2]at j;exact j,m⟩
    ·cases h
   ·cases h
  ·cases h
 ·rename_i d x;obtain⟨v,M,rfl,hs,u,Y,rfl,hx,rfl⟩:=J;split at h
  ·rename_i t h1;split at h
   ·rename_i e hu;split at h
    ·rename_i n O;exact Ct hI h1 hu O hs hx h
    ·cases h
   ·cases h
  ·cases h
 ·rename_i d;obtain⟨v,M,rfl,hs,rfl⟩:=J;split at h
  ·rename_i t h1;split at h
   ·rename_i e hu;split at h
    ·rename_i n z O hz;exact Ba hI h1 hu O hz hs h
    ·cases h
   ·cases h
  ·cases h
 ·split at h
  ·rename_i us C;have:=oN args vs us J C;subst this;split at h
   ·rename_i y hy;cases h;exact cz.value (gy hy w) rfl
   ·cases h
  ·cases h
 ·split at h
  ·rename_i us C;have:=oN args vs us J C;subst this;split at h
   ·rename_i y hy;cases h;exact cz.value (gy hy w) rfl
   ·cases h
  ·cases h
 ·split at h
  ·rename_i us C;have:=oN args vs us J C;subst this;split at h
   ·rename_i y hy;cases h;exact cz.value (gy hy w) rfl
   ·cases h
  ·cases h
 ·cases h
theorem kp(a1:tU P)(D:Inv out B w π H){nid:Nat}(j:nid<=H.length)(E:∀q,π[nid]?≠some (some q)){ρ:Operand->AV}{ρc:Operand->Value}(hρ:∀x,Rv w (aG out π H) π (ρ x) (ρc x)){o:Oper}{r:bj}(h:evalOp P ρ H nid o=some r):
  cz P out B w π H (execOp ρc o) r:=by
 unfold evalOp at h;unfold execOp;cases a2:o.op<;>simp only[a2,xn,sJ,yT,uv,kq,uC,oP,qs,lQ,uR,vt,nz]at h ⊢
 case move x=>cases h;exact⟨_,_,rfl,.inl rfl,hρ x⟩
 case «assign» x=>cases h;exact⟨_,_,rfl,.inl rfl,hρ x⟩
 case pick c a b=>
  split at h
  ·rename_i t hc;cases h;have a3:ρc c=.bool t:=by have:=hρ c;rw[hc]at this;exact this
   refine⟨_,if t then ρc a else ρc b,?_,.inl rfl,Cp (hρ a) (hρ b)⟩;simp[a3,asBool]
  ·cases h
 case alloc t=>
  split at h
  ·rename_i z I;split at h
   ·rename_i h1;cases h;exact BJ D j E I h1
   ·cases h
  ·cases h
 case box t x=>
  split at h
  ·rename_i h1;cases h;exact D2 D j E (hρ x) h1
  ·cases h
 case build t parts=>
  split at h
  ·rename_i z fs I hu;split at h
   ·rename_i pl a4;split at h
    ·rename_i h1;split at h
     ·rename_i cs J;cases h;obtain⟨u,r1,r2⟩:=tH (w:=w) (π:=π) hρ hu I a4 h1 J;exact cz.value r1 r2
     ·cases h
    ·cases h
   ·cases h
  ·rename_i z len e I hu;split at h
   ·rename_i n hn;split at h
    ·rename_i h1;split at h
     ·rename_i cs J;cases h;obtain⟨u,r1,r2⟩:=u9 (w:=w) (π:=π) hρ hu I hn h1 J;exact cz.value r1 r2
     ·cases h
    ·cases h
   ·cases h
  ·cases h
 case buildSlice t len parts=>
  split at h
  ·rename_i e hu;split at h
   ·rename_i n z hn I;split at h
    ·rename_i hc;simp only[Bool.and_eq_true,decide_eq_true_eq]at hc;split at h
     ·rename_i cs J;cases h;exact vV D j E hρ hu hn I hc.1.1 hc.1.2 hc.2 J
     ·cases h
    ·cases h
   ·cases h
  ·cases h
 case load t a=>
  refine jJ h fun A C=>?_
  obtain⟨u,r1,r2⟩:=wF D (hρ a) C;exact cz.value r1 r2
 case store t a x=>
  split at h
  ·rename_i H' a5;cases h;obtain⟨w',r1,r2,r3⟩:=Aw D (hρ a) (hρ x) a5;exact⟨.skip,undef,w',π,by simp[r1],.inr ⟨rfl,rfl⟩,r2,r3,trivial,fun _ _=>rfl⟩
  ·cases h
 case nilCheck x=>
  have hx:=hρ x;split at h
  ·rename_i b off hb;cases h;rw[hb]at hx;have M:=hx;obtain⟨p,_,hp⟩:=hx;refine⟨_,ρc x,?_,.inl rfl,M⟩;rw[hp];rfl
  ·rename_i cs off hb;cases h;rw[hb]at hx;have M:=hx;obtain⟨b,o,hp,_⟩:=hx;refine⟨_,ρc x,?_,.inl rfl,M⟩;rw[hp];rfl
  ·rename_i f a c hb;cases h;rw[hb]at hx;have M:=hx;obtain⟨fs,cs,hp,_⟩:=hx;refine⟨_,ρc x,?_,.inl rfl,M⟩;rw[hp];rfl
  ·cases h
 case binOp op t x y yt=>
  refine jJ h fun A C=>?_
  obtain⟨u,r1,r2⟩:=zI (P:=P) (hρ x) (hρ y) C;exact cz.value r1 r2
 case unOp op t x=>exact ym (hρ x) (fun a b e hb=>by subst e;exact gy hb w) h
 case convert s d x=>
  split at h
  ·rename_i v hv;cases h;exact cz.value (Bw (P:=P) (w:=w) (hρ x) hv) rfl
  ·exact ym (hρ x) (fun a b e hb=>by subst e;exact gy hb w) h
 case makeFunc fn fs cs=>
  cases fn<;>simp only at h
  case func f=>
   cases h;refine cz.value (v:=.func (.func f) (fs.map ρc) (cs.map ρc)) rfl ⟨fs.map ρc,cs.map ρc,rfl,?_,?_⟩
   ·rw[Array.toList_map];exact vb hρ _
   ·rw[Array.toList_map];exact vb hρ _
  all_goals cases h
 case makeSlice t l c=>
  split at h
  ·rename_i e kl il kc ic hu hl hc;split at h
   ·rename_i n by_ z hn hb I;split at h
    ·rename_i N;simp only[Bool.and_eq_true,decide_eq_true_eq]at N;obtain⟨⟨⟨⟨⟨⟨T,U⟩,k3⟩,k4⟩,k5⟩,k6⟩,k7⟩:=N;cases h;have e1:=sy (hρ l) hl;have e2:=sy (hρ c) hc;rw[e1,e2];exact wN D j E hu hn hb I T U k3 k4 k5 k6 k7
    ·cases h
   ·cases h
  ·cases h
 case slice t x lo hi mx=>
  cases mx with
  |some m=>simp only at h;cases h
  |none=>
   have ho:∀y:Option Operand,H3 w (aG out π H) π (y.map ρ) (y.map ρc):=by
    intro y;cases y with
    |none=>trivial
    |some y=>exact hρ y
   simp only at h;split at h
   ·rename_i s hs;have hx:ρc x=.string s:=by have:=hρ x;rw[hs]at this;exact this
    have opt:∀(y:Option Operand) (z:Option Value),(match y with|none=>some none|some a=>(toV (ρ a)).map some)=some z->y.map ρc=z:=by
     intro y z I;cases y with
     |none=>cases I;rfl
     |some a=>
      simp only at I;cases ha:toV (ρ a)with
      |none=>simp[ha]at I
      |some b=>simp[ha]at I;subst I;simp[jG _ _ _ (hρ a) ha]
    split at h
    ·rename_i l hh hl a6;have e1:=opt lo l hl;have e2:=opt hi hh a6;split at h
     ·rename_i r' a7;cases h;rw[hx];simp only[Option.map_none];rw[e1,e2];exact cz.value (gy a7 w) rfl
     ·cases h
    ·cases h
   ·refine jJ h fun A C=>?_
    obtain⟨u,r1,r2⟩:=zJ D (hρ x) (ho lo) (ho hi) C;exact cz.value r1 r2
 case fieldAddr s x f=>
  refine jJ h fun A C=>?_
  obtain⟨u,r1,r2⟩:=vW (P:=P) (w:=w) (hρ x) C;exact cz.value r1 r2
 case field s x f=>
  refine jJ h fun A C=>?_
  obtain⟨u,r1,r2⟩:=zR (P:=P) (w:=w) (hρ x) C;exact cz.value r1 r2
 case indexAddr t x Y=>
  refine jJ h fun A C=>?_
  obtain⟨u,r1,r2⟩:=vi (P:=P) (w:=w) (hρ x) (hρ Y) C;exact cz.value r1 r2
 case index t x Y=>
  refine jJ h fun A C=>?_
  obtain⟨u,r1,r2⟩:=zY (P:=P) (w:=w) (hρ x) (hρ Y) C;exact cz.value r1 r2
 case extract t Y=>
  split at h
  ·rename_i vs a8;refine jJ h fun A C=>?_
   have ht:=hρ t;rw[a8]at ht;obtain⟨us,hu,hr⟩:=ht;obtain⟨u,r1,r2⟩:=RvL.get _ _ _ _ hr C;rw[hu];exact cz.value (v:=u) (by simp[Instr.extract,<-Array.getElem?_toList,r1]) r2
  ·cases h
 case makeMap t r=>
  exact wS D j E (by cases r with|none=>trivial|some y=>exact hρ y) h
 case lookup t x Y ok=>
  refine jJ h fun A C=>?_
  obtain⟨u,r1,r2⟩:=yO D (hρ x) (hρ Y) C;exact cz.value r1 r2
 case mapUpdate t m k x=>exact su D (hρ m) (hρ k) (hρ x) h
 case insert t m k x=>exact su D (hρ m) (hρ k) (hρ x) h
 case mapEntry t m k=>exact yw D (hρ m) (hρ k) h
 case entryStore t m s x=>exact tM D (hρ m) (hρ s) (hρ x) h
 case range t x=>exact yJ D j E (hρ x) h
 case entry it=>exact uK D (hρ it) h
 case call c=>
  cases O:c.callee<;>simp only[O]at h
  case value f=>
   split at h
   ·rename_i g fs cs hf;split at h
    ·rename_i hc;cases h;have a0:=hρ f;rw[hf]at a0;obtain⟨a,b,e1,h1,h2⟩:=a0;refine⟨a++c.args.map ρc++b,?_,?_⟩
     ·simp[resolve,O,e1,Deferred.ofValue,invoke,zU a1 hc]
     ·simp only[Array.toList_append,Array.toList_map];exact RvL.append _ _ _ _ (RvL.append _ _ _ _ h1 (vb hρ _)) h2
    ·cases h
   ·cases h
  case builtin b=>
   have ea:(c.args.toList.map ρc).toArray=c.args.map ρc:=by apply Array.ext';simp
   have e:∃consts,∀w,(do let d<-resolve ρc c o.type;invoke d.target d.args:Sem Next).run P w=(builtin b c.argTypes o.type consts (c.args.toList.map ρc).toArray).run P w:=
    ⟨_,fun w=>by rw[ea];simp only[resolve,O,invoke,Sem.run_bind,Sem.run_pure,Result.andThen_ok];rfl⟩
   obtain⟨consts,e⟩:=e;have:=xM (consts:=consts) D j E (vb hρ c.args.toList) h;cases r with
   |pure A=>obtain⟨nx,y,T,U⟩:=this;exact⟨nx,y,by rw[e];exact T,U⟩
   |eff A H'=>obtain⟨nx,y,w',π',T,U⟩:=this;exact⟨nx,y,w',π',by rw[e];exact T,U⟩
   |call f as=>obtain⟨y,T,U⟩:=this;exact⟨y,by rw[e];exact T,U⟩
  case invoke=>cases h
 all_goals cases h
end
end Go.Eng

