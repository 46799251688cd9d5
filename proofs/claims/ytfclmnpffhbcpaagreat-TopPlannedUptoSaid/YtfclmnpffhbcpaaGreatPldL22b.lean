import Derived.Test.YtfclmnpffhbcpaaGreatPldL02s
import Derived.Test.YtfclmnpffhbcpaaGreatPldL02s
set_option linter.all false
namespace Go.L
open Go Go.Eng
def tT(v:Rat):Prop:=∃p q:Int,v=Rat.divInt p q/\0<q/\q<pB 4/\ -pB 4<p/\p<pB 4
theorem CW:pB 4=1000000000000000000000000000000000000:=rfl
theorem wq{m:Int}(h:-1000000000000000000000000000000<=m/\m<=1000000000000000000000000000000):tT (m:Rat):=⟨m,1,by rw[sG],by omega,by rw[CW];omega,by rw[CW];omega,by rw[CW];omega⟩
theorem tT.qx{z:an}{v:Rat}{j:Nat}(h:tT v)(q:Qx z v j):Qx z v 4:=by
 obtain⟨p,I,e,h1,C,D,E⟩:=h;exact QL.tight q e h1 D E C
def cV(V:List Rat)(a:Int):Rat:=V.getD a.toNat 0
def lZ(V:List Rat)(op a b:Int):Rat:=if op=2 then cV V a+cV V b else if op=3 then cV V a-cV V b else if op=4 then cV V a*cV V b else if op=5 then cV V a / cV V b else if op=7 then cV V a*cV V a else 0
def tw(m i:Nat)(V:List Rat)(op a b:Int):Prop:=(op=1/\inR a m=true)\/((op=2\/op=3\/op=4)/\inR a i=true/\inR b i=true)\/(op=5/\inR a i=true/\inR b i=true/\cV V b≠0)\/(op=7/\inR a i=true)
structure qo (m:Nat) (t:List ae) (V:List Rat):Prop where
 len:V.length=t.length
 ok:∀i,i<t.length->((((t.getD i default).Op=0/\Qx (t.getD i default).N (V.getD i 0) 4)\/(tw m i V (t.getD i default).Op (t.getD i default).A (t.getD i default).B/\V.getD i 0=lZ V (t.getD i default).Op (t.getD i default).A (t.getD i default).B))/\tT (V.getD i 0))
theorem rp{V:List Rat}{v:Rat}{a:Int}(h:inR a V.length=true):cV (V++[v]) a=cV V a:=by
 have h:=iH.1 h;unfold cV;simp only[List.getD];rw[List.getElem?_append_left (by omega)]
theorem oh{a:Int}{i j:Nat}(h:inR a i=true)(q:i<=j):inR a j=true:=by
 have h:=iH.1 h;exact iH.2 (by omega)
theorem BW{m i:Nat}{V:List Rat}{v:Rat}{op a b:Int}(h:tw m i V op a b)(hi:i<=V.length):tw m i (V++[v]) op a b/\lZ (V++[v]) op a b=lZ V op a b:=by
 rcases h with⟨rfl,h⟩|⟨q,h1,j⟩|⟨rfl,h1,j,z⟩|⟨rfl,h1⟩
 ·exact⟨.inl ⟨rfl,h⟩,rfl⟩
 ·refine⟨.inr (.inl ⟨q,h1,j⟩),?_⟩;unfold lZ;rw[rp (oh h1 hi),rp (oh j hi)]
 ·have e:=rp (v:=v) (oh j hi);refine⟨.inr (.inr (.inl ⟨rfl,h1,j,by rw[e];exact z⟩)),?_⟩;unfold lZ;rw[rp (oh h1 hi),e]
 ·refine⟨.inr (.inr (.inr ⟨rfl,h1⟩)),?_⟩;unfold lZ;rw[rp (oh h1 hi)];rfl
theorem uS{α:Type}{l:List α}{x d:α}{i:Nat}(h:i<l.length):(l++[x]).getD i d=l.getD i d:=by simp only[List.getD];rw[List.getElem?_append_left h]
theorem qC{α:Type}{l:List α}{x d:α}:(l++[x]).getD l.length d=x:=by simp[List.getD]
theorem qo.snoc{m:Nat}{t:List ae}{V:List Rat}{j:ae}{v:Rat}(h:qo m t V)(D:tT v)(k:(j.Op=0/\Qx j.N v 4)\/(tw m V.length V j.Op j.A j.B/\v=lZ V j.Op j.A j.B)):qo m (t++[j]) (V++[v]):=by
 refine⟨by rw[List.length_append,List.length_append,h.len];rfl,fun i hi=>?_⟩;rw[List.length_append,List.length_singleton]at hi;by_cases q:i<t.length
 ·obtain⟨a,b⟩:=h.ok i q;have E:i<V.length:=by rw[h.len];exact q
  rw[uS q,uS E];refine⟨?_,b⟩;rcases a with a|⟨I,a2⟩
  ·exact .inl a
  ·obtain⟨z,C⟩:=BW (v:=v) I (by omega);exact .inr ⟨z,by rw[C];exact a2⟩
 ·obtain rfl:i=t.length:=by omega
  rw[qC];rw[<-h.len,qC];refine⟨?_,D⟩;rcases k with k|⟨J,O⟩
  ·exact .inl k
  ·obtain⟨z,C⟩:=BW (v:=v) J (by omega);exact .inr ⟨z,by rw[C];exact O⟩
theorem rA{α:Type}{l:List α}{d:α}{i k:Nat}(h:i<k):(l.take k).getD i d=l.getD i d:=by simp only[List.getD];rw[List.getElem?_take_of_lt h]
theorem qo.take{m:Nat}{t:List ae}{V:List Rat}(h:qo m t V)(k:Nat):qo m (t.take k) (V.take k):=by
 refine⟨by rw[List.length_take,List.length_take,h.len],fun i hi=>?_⟩;rw[List.length_take]at hi;have C:i<k:=by omega
 obtain⟨a,b⟩:=h.ok i (by omega);rw[rA C,rA C];refine⟨?_,b⟩;have q:∀x:Int,inR x i=true->cV (V.take k) x=cV V x:=by
  intro x D;have D:=iH.1 D;unfold cV;rw[rA (by omega)]
 rcases a with a|⟨E,a2⟩
 ·exact .inl a
 ·refine .inr ?_;rw[a2];rcases E with⟨j,h⟩|⟨j,h1,z⟩|⟨j,h1,z,I⟩|⟨j,h1⟩
  ·refine⟨.inl ⟨j,h⟩,?_⟩;unfold lZ;rw[j];rfl
  ·refine⟨.inr (.inl ⟨j,h1,z⟩),?_⟩;unfold lZ;rw[q _ h1,q _ z]
  ·refine⟨.inr (.inr (.inl ⟨j,h1,z,by rw[q _ z];exact I⟩)),?_⟩;unfold lZ;rw[q _ h1,q _ z]
  ·refine⟨.inr (.inr (.inr ⟨j,h1⟩)),?_⟩;unfold lZ;rw[j,q _ h1];rfl
theorem Be{n:Nat}{x y:an}{a b:Rat}{j k:Nat}(D:5000<=n)(hk:j+k<=60)(O:Qx x a j)(R:Qx y b k)(S:b≠0):Ok (kg n x y) fun z=>Qx z.1 (a / b) (j+k):=by
 unfold kg;refine Ok.bd (gE D (by omega) O) fun v C=>Ok.bd (gE D (by omega) R) fun w hw=>?_
 have T:=C.nl;have n2:=hw.nl;have d1:=C.dl;have d2:=hw.dl;have E:=Ga S;refine Ok.bde (lV (by omega) (by omega) hw.num) (Ok.cd (fun h=>?_) (fun _=>?_))
 ·have:sgn b.num=0:=by simpa using h
  have:=dS b.num;omega
 refine Ok.bd (oz (by omega) C.num hw.den (by omega) (by omega)) fun p hp=>Ok.bd (oz (by omega) C.den hw.num (by omega) (by omega)) fun q J=>?_
 have U:=ik C.num hw.den hp T d2;have Y:=ik C.den hw.num J d1 n2;have I:(a.den:Int)*b.num≠0:=Int.mul_ne_zero (by have:=den_pos a;omega) E;refine Ok.bd (nq D hk hp J U Y I) fun z N=>aC.2 ?_
 rw[Fx]at N;exact N
theorem yU{n m:Nat}(T:5000<=n){t:List ae}{V:List Rat}{x:List an}(h:qo m t V)(h0:0<t.length)(hl:t.length<=2000)(Z:x.length=m)(D:∀k,k<m->Qx (x.getD k default) 0 4):Ok (jB n t x) fun r=>Qx r (V.getD (t.length-1) 0) 4:=by
 unfold jB;refine Ok.gd (decide_eq_true (by omega)) ?_;refine Ok.gd (decide_eq_true (by omega)) ?_;refine Ok.gd (decide_eq_true (by omega)) ?_;refine Ok.bd (R:=fun o=>o.length=t.length/\∀j,j<t.length->Qx (o.getD j default) (V.getD j 0) 4) ?_ ?_
 ·refine eh (len:=t.length) (fun k (c:List an)=>c.length=t.length/\∀j,j<k->Qx (c.getD j default) (V.getD j 0) 4) (by omega) (by omega) ⟨by simp,fun j hj=>by omega⟩ ?_ ?_
  ·rintro again k c hk ⟨hc,S⟩ Y;obtain⟨N,q⟩:=h.ok k hk;have hV:k<V.length:=by rw[h.len];exact hk
   dsimp only at Y ⊢;refine Ok.cd (fun _=>Ok.gd (by rw[bm];exact decide_eq_true hk) ?_) (fun h=>by have:=dcF h;omega);have O:inR (k:Int) c.length=true:=by rw[bm,hc];exact decide_eq_true hk
   have iC:∀a:Int,inR a k=true->inR a c.length=true:=fun a U=>oh U (by omega)
   have I:∀a:Int,inR a k=true->Qx (gt c a) (cV V a) 4:=by
    intro a U;have U:=iH.1 U;unfold gt cV;exact S _ (by omega)
   have fin:∀z:an,Qx z (V.getD k 0) 4->Ok (again (c.set k z,Hy ((k:Int)+1))) (fun o=>o.length=t.length/\∀j,j<t.length->Qx (o.getD j default) (V.getD j 0) 4):=by
    intro z D;refine Y _ ⟨by rw[List.length_set,hc],fun j hj=>?_⟩;simp only[List.getD]at D ⊢;rw[List.getElem?_set];by_cases e:k=j
    ·subst e;simp[hc,hk,D]
    ·simp only[e,if_false];exact S j (by omega)
   rw[dQ];simp only[Int.toNat_natCast];generalize t.getD k default=nd at*;rcases N with⟨C,hN⟩|⟨hK,E⟩
   ·rw[C];exact Ok.cd (fun _=>Ok.gd O (fin _ hN)) (fun h=>by cases h)
   ·rcases hK with⟨C,h1⟩|⟨C|C|C,h1,J⟩|⟨C,h1,J,h3⟩|⟨C,h1⟩
    ·rw[C]at E ⊢;refine Ok.cd (fun h=>by cases h) (fun _=>Ok.cd (fun _=>Ok.gd (by rw[Z];exact h1) (Ok.gd O (fin _ ?_))) (fun h=>by cases h));rw[E];have h1:=iH.1 h1;unfold gt;exact D _ (by omega)
    ·rw[C]at E ⊢;refine Ok.cd (fun h=>by cases h) (fun _=>Ok.cd (fun h=>by cases h) (fun _=>Ok.cd (fun _=>Ok.gd (iC _ h1) (Ok.gd (iC _ J) ?_)) (fun h=>by cases h)));refine Ok.bd (uY T (by omega) (I _ h1) (I _ J)) fun z D=>Ok.gd O (fin _ ?_)
     rw[E]at q ⊢;exact q.qx D
    ·rw[C]at E ⊢;refine Ok.cd (fun h=>by cases h) (fun _=>Ok.cd (fun h=>by cases h) (fun _=>Ok.cd (fun h=>by cases h) (fun _=>Ok.cd (fun _=>Ok.gd (iC _ h1) (Ok.gd (iC _ J) ?_)) (fun h=>by cases h))));refine Ok.bd (zq T (by omega) (I _ h1) (I _ J)) fun z D=>Ok.gd O (fin _ ?_)
     rw[E]at q ⊢;exact q.qx D
    ·rw[C]at E ⊢;refine Ok.cd (fun h=>by cases h) (fun _=>Ok.cd (fun h=>by cases h) (fun _=>Ok.cd (fun h=>by cases h) (fun _=>Ok.cd (fun h=>by cases h) (fun _=>Ok.cd (fun _=>Ok.gd (iC _ h1) (Ok.gd (iC _ J) ?_)) (fun h=>by cases h)))));refine Ok.bd (Cc T (by omega) (I _ h1) (I _ J)) fun z D=>Ok.gd O (fin _ ?_)
     rw[E]at q ⊢;exact q.qx D
    ·rw[C]at E ⊢;refine Ok.cd (fun h=>by cases h) (fun _=>Ok.cd (fun h=>by cases h) (fun _=>Ok.cd (fun h=>by cases h) (fun _=>Ok.cd (fun h=>by cases h) (fun _=>Ok.cd (fun h=>by cases h) (fun _=>Ok.cd (fun _=>Ok.gd (iC _ h1) (Ok.gd (iC _ J) ?_)) (fun h=>by cases h))))));refine Ok.bd (Be T (by omega) (I _ h1) (I _ J) h3) fun z D=>Ok.gd O (fin _ ?_)
     rw[E]at q ⊢;exact q.qx D
    ·rw[C]at E ⊢;refine Ok.cd (fun h=>by cases h) (fun _=>Ok.cd (fun h=>by cases h) (fun _=>Ok.cd (fun h=>by cases h) (fun _=>Ok.cd (fun h=>by cases h) (fun _=>Ok.cd (fun h=>by cases h) (fun _=>Ok.cd (fun h=>by cases h) (fun _=>Ok.gd rfl (Ok.cd (fun _=>Ok.gd (iC _ h1) ?_) (fun h=>by cases h))))))));refine Ok.bd (Cc T (by omega) (I _ h1) (I _ h1)) fun z D=>Ok.gd O (fin _ ?_)
     rw[E]at q ⊢;exact q.qx D
  ·rintro again c ⟨hc,S⟩;exact Ok.cd (fun h=>by have:=dcT h;omega) (fun _=>aC.2 ⟨hc,S⟩)
 ·rintro o ⟨C,S⟩;rw[wrap64_in (n:=(t.length:Int)-1) (by omega) (by omega)];have e:(t.length:Int)-1=((t.length-1:Nat):Int):=by omega
  rw[e,dQ];exact Ok.gd (by rw[bm,C];exact decide_eq_true (by omega)) (aC.2 (S _ (by omega)))
end Go.L


set_option linter.all false
namespace Go.L
open Go Go.Eng
theorem xj{κ α:Type}[DecidableEq κ]{z:α}{k k':κ}{v:α}:∀{E:List (κ×α)},getM z (ou E k v) k'=if k'=k then v else getM z E k'
 |[]=>by
  simp only[ou,getM];by_cases h:k'=k
  ·subst h;simp
  ·have:(k'==k)=false:=by simpa using h
   rw[this,if_neg h];rfl
 |p::E=>by
  have q:=xj (z:=z) (k:=k) (k':=k') (v:=v) (E:=E);simp only[ou];cases h1:k==p.1 with
  |true=>
   have h1:=eq_of_beq h1;simp only[cond_true,getM];by_cases h:k'=k
   ·subst h;simp
   ·have:(k'==k)=false:=by simpa using h
    have j:(k'==p.1)=false:=by rw[<-h1];exact this
    rw[this,if_neg h,j];rfl
  |false=>
   simp only[cond_false,getM,q];cases j:k'==p.1 with
   |true=>
    have j:=eq_of_beq j;have:k'≠k:=fun e=>by rw[<-e,j]at h1;simp at h1
    simp[this]
   |false=>rfl
theorem xF{κ α:Type}[DecidableEq κ]{k k':κ}{v:α}:∀{E:List (κ×α)},kz (ou E k v) k'=(k'==k||kz E k')
 |[]=>by simp only[ou,kz];cases k'==k<;>rfl
 |p::E=>by
  have j:=xF (k:=k) (k':=k') (v:=v) (E:=E);simp only[ou];cases h1:k==p.1 with
  |true=>
   have h1:=eq_of_beq h1;simp only[cond_true,kz];rw[<-h1];cases k'==k<;>rfl
  |false=>
   simp only[cond_false,kz,j];cases k'==p.1<;>cases k'==k<;>rfl
abbrev tN:=List (aD×Int)
structure jY (m:Nat) (t:List ae) (kn:tN) (V:List Rat):Prop where
 tv:qo m t V
 kn:∀k:aD,kz kn k=true->inR (getM 0 kn k) t.length=true/\(gt t (getM 0 kn k)).Op=k.f_op/\(gt t (getM 0 kn k)).A=k.f_a/\(gt t (getM 0 kn k)).B=k.f_b/\(k.f_op=0->cV V (getM 0 kn k)=(k.f_n:Rat))
def eU(V:List Rat)(l:List (Int×Rat)):Prop:=∀k:Nat,k<l.length->inR (l.getD k (0,0)).1 V.length=true/\cV V (l.getD k (0,0)).1=(l.getD k (0,0)).2
def jn(m:Nat)(l:List (Int×Rat))(L:Nat)(v:Rat)(r:List ae×tN×Int):Prop:=∃V,jY m r.1 r.2.1 V/\eU V ((r.2.2,v)::l)/\r.1.length<=L
theorem eU.app{V:List Rat}{l:List (Int×Rat)}(h:eU V l)(v:Rat):eU (V++[v]) l:=fun k hk=>by
 obtain⟨a,b⟩:=h k hk;exact⟨oh a (by rw[List.length_append];omega),by rw[rp a];exact b⟩
theorem eU.cons{V:List Rat}{l:List (Int×Rat)}{i:Int}{v:Rat}(h:eU V l)(h1:inR i V.length=true)(j:cV V i=v):eU V ((i,v)::l):=fun k hk=>by
 cases k with
 |zero=>exact⟨h1,j⟩
 |succ k=>exact h k (by simpa using hk)
theorem eU.drop{V:List Rat}{l:List (Int×Rat)}{x y:Int×Rat}(h:eU V (x::y::l)):eU V (x::l):=fun k hk=>by
 cases k with
 |zero=>exact h 0 (by simp)
 |succ k=>exact h (k+2) (by simp at hk ⊢;omega)
def F7(m:Nat)(V:List Rat)(k:aD)(v:Rat):Prop:=(k.f_op=0/\(-9223372036854775808<=k.f_n/\k.f_n<=9223372036854775807)/\v=(k.f_n:Rat))\/(tw m V.length V k.f_op k.f_a k.f_b/\v=lZ V k.f_op k.f_a k.f_b)
theorem BN{m i:Nat}{V:List Rat}{op a b:Int}(h:tw m i V op a b):op≠0:=by
 rcases h with⟨h,_⟩|⟨h,_⟩|⟨h,_⟩|⟨h,_⟩<;>omega
theorem oK{n m:Nat}(hn:5000<=n){t:List ae}{kn:tN}{V:List Rat}{l:List (Int×Rat)}{L:Nat}(B:jY m t kn V)(E:eU V l)(hl:t.length<=L)(hL:L<=1000)(k:aD){v:Rat}(hv:tT v)(hk:F7 m V k v)(x':Int)(x2:List ah)(x3:List au)(x4:List ar)(x5:List (A3 Int×Int)):
  Ok (bh n x' x2 x3 x4 x5 t kn k) fun r=>jn m l (L+1) v r:=by
 have S:=B.tv.len;have snoc:∀I:ae,I.Op=k.f_op->I.A=k.f_a->I.B=k.f_b->(k.f_op=0->Qx I.N v 4)->jn m l (L+1) v (t++[I],ou kn k (Hy (((t++[I]).length:Int)-1)),Hy (((t++[I]).length:Int)-1)):=by
  intro I h1 R Y h4;have e:Hy (((t++[I]).length:Int)-1)=(t.length:Int):=by rw[List.length_append,List.length_singleton,wrap64_in (by omega) (by omega)];omega
  rw[e];have J:cV (V++[v]) (t.length:Int)=v:=by unfold cV;rw[Int.toNat_natCast,<-S];exact qC
  have Z:inR (t.length:Int) (V++[v]).length=true:=by rw[bm,List.length_append,S];simp
  refine⟨V++[v],⟨?_,?_⟩,(E.app v).cons Z J,by rw[List.length_append];simp;omega⟩
  ·refine B.tv.snoc hv ?_;rcases hk with⟨q,_,_⟩|⟨q,he⟩
   ·exact .inl ⟨by rw[h1];exact q,h4 q⟩
   ·exact .inr ⟨by rw[h1,R,Y];exact q,by rw[h1,R,Y];exact he⟩
  ·intro k' O;dsimp only at O ⊢;rw[xj];by_cases ek:k'=k
   ·subst ek;rw[if_pos rfl];refine⟨by rw[bm,List.length_append];simp,?_⟩;rw[dQ,qC];refine⟨h1,R,Y,fun C=>?_⟩;rw[J];rcases hk with⟨_,_,he⟩|⟨q,_⟩
    ·exact he
    ·exact absurd C (BN q)
   ·rw[if_neg ek];rw[xF,beq_eq_false_iff_ne.2 ek,Bool.false_or]at O;obtain⟨c1,c2,T,U,c5⟩:=B.kn k' O;have hi:=iH.1 c1;have hg:gt (t++[I]) (getM 0 kn k')=gt t (getM 0 kn k'):=by unfold gt;rw[uS (by omega)]
    refine⟨oh c1 (by rw[List.length_append];omega),?_⟩;rw[hg];exact⟨c2,T,U,fun C=>by rw[rp (by rw[S];exact c1)];exact c5 C⟩
 unfold bh;refine Ok.cd (fun h=>aC.2 ?_) (fun h=>?_)
 ·obtain⟨c1,c2,T,U,c5⟩:=B.kn k h;refine⟨V,B,E.cons (by rw[S];exact c1) ?_,by dsimp only;omega⟩;have hi:=iH.1 c1;rcases hk with⟨q,_,he⟩|⟨q,he⟩
  ·rw[he];exact c5 q
  ·obtain⟨j,hj⟩:∃j:Nat,getM 0 kn k=(j:Int):=⟨(getM 0 kn k).toNat,by omega⟩;rw[hj]at c2 T U hi ⊢;obtain⟨D,_⟩:=B.tv.ok j (by omega);rw[<-dQ,c2,T,U]at D;unfold cV;rw[Int.toNat_natCast];rcases D with⟨C,_⟩|⟨_,R⟩
   ·exact absurd C (BN q)
   ·rw[R,he]
 ·refine Ok.cd (fun C=>?_) (fun C=>?_)
  ·have C:=eq_of_beq C;rcases hk with⟨q,hb,he⟩|⟨q,_⟩
   ·refine Ok.bd (sV hn (by omega) (by omega)) fun z hz=>Ok.gd (decide_eq_true (by omega)) (Ok.gd (decide_eq_true (by omega)) (aC.2 (snoc _ rfl rfl rfl fun _=>?_)))
    rw[sG,<-he]at hz;exact hv.qx hz
   ·exact absurd C (BN q)
  ·have C:k.f_op≠0:=by simpa using C
   exact Ok.gd (decide_eq_true (by omega)) (Ok.gd (decide_eq_true (by omega)) (aC.2 (snoc _ rfl rfl rfl fun h=>absurd h C)))
end Go.L

