import Derived.Test.YtglimpjlhfjgdaaGreatGrdL51b
import Derived.Test.YtglimpjlhfjgdaaGreatGrdL51b
import Derived.Test.YtglimpjlhfjgdaaGreatGrdL51b
import Derived.Test.YtglimpjlhfjgdaaGreatGrdL02sB
import Derived.Test.YtglimpjlhfjgdaaGreatGrdL02sB
import Derived.Test.YtglimpjlhfjgdaaGreatGrdL51b
set_option linter.all false
namespace Go.L
open Go Go.Eng
def shQ(a b c:Rat):Rat:=a*a / ((a-b)*(a-c))
def ou(f:Rat->Rat->Rat->Rat)(m a b c:Rat):Rat:=
 if 0<a then(if 0<b then(if 0<c then m else m-f c a b)else(if 0<c then m-f b c a else f a b c))
 else if 0<b then(if 0<c then m-f a b c else f b c a)else if 0<c then f c a b else 0
def h2(A:Int):Rat:=Rat.divInt A 2
theorem vv(A:Int):h2 A=(A:Rat) / 2:=by unfold h2;rw[Rat.divInt_eq_div];rfl
theorem cast_pos{A:Int}:(0:Rat)<(A:Rat)↔0<A:=by rw[<-Rat.intCast_zero,Rat.intCast_lt_intCast]
theorem rI{A:Int}:0<h2 A↔0<A:=by
 rw[vv,<-cast_pos];constructor<;>intro h<;>grind
theorem Dw{A B:Int}(h:A≠B):(A:Rat)-(B:Rat)≠0:=by
 intro e;have:(A:Rat)=(B:Rat):=by grind
 exact h (Rat.intCast_inj.1 this)
def inH(A:Int):Prop:=A≠0/\ -4194305<=A/\A<=4194305
theorem Gr{A B C:Int}(j:inH A)(m:inH B)(p:inH C)(h:0<(A-B)*(A-C)):(A-B)*(A-C)<=8388610*8388610/\A≠B/\A≠C:=by
 obtain⟨D,a2,a3⟩:=j;obtain⟨E,I,J⟩:=m;obtain⟨c1,c2,M⟩:=p;have q:A≠B:=by rintro rfl;simp at h
 have n2:A≠C:=by rintro rfl;simp at h
 refine⟨?_,q,n2⟩;by_cases hp:0<A-B
 ·have z:0<A-C:=by
   apply Classical.byContradiction;intro hc;have:=Int.mul_nonneg (show 0<=A-B by omega) (show 0<=-(A-C)by omega);rw[Int.mul_neg]at this;omega
  exact Int.mul_le_mul (by omega) (by omega) (by omega) (by omega)
 ·have z:A-C<0:=by
   apply Classical.byContradiction;intro hc;have:=Int.mul_nonneg (show 0<=-(A-B)by omega) (show 0<=A-C by omega);rw[Int.neg_mul]at this;omega
  rw[<-Int.neg_mul_neg];exact Int.mul_le_mul (by omega) (by omega) (by omega) (by omega)
theorem FJ{A B C:Int}(j:inH A)(m:inH B)(p:inH C)(h:0<(A-B)*(A-C)):Bd1 (iY (h2 A) (h2 B) (h2 C))/\Bd1 (cP (h2 A) (h2 B) (h2 C)-iY (h2 A) (h2 B) (h2 C)):=by
 obtain⟨d,q,n2⟩:=Gr j m p h;have z:=Dw q;have hc:=Dw n2;have D:=j.2;have E:=m.2;have I:=p.2;have a2:=sa (a:=A) (b:=A) (A:=4194305) (B:=4194305) (by omega) (by omega) (by omega) (by omega);have a3:=sa (a:=A) (b:=A*A) (A:=4194305) (B:=17592194433025) (by omega) (by omega) (by omega) (by omega);have s1:=sa (a:=A+(B+C)) (b:=(A-B)*(A-C)) (A:=12582915) (B:=70368777732100) (by omega) (by omega) (by omega) (by omega);refine⟨⟨A*(A*A),6*((A-B)*(A-C)),?_,by omega,by omega,by omega,by omega⟩,⟨(A+(B+C))*((A-B)*(A-C))-A*(A*A),6*((A-B)*(A-C)),?_,by omega,by omega,by omega,by omega⟩⟩;all_goals
  rw[Rat.divInt_eq_div,vv,vv,vv];unfold iY;try unfold cP
  push_cast;grind
theorem CX(a b c:Rat):cP b c a=cP a b c:=by unfold cP;grind
theorem E7{A B C:Int}(j:inH A)(m:inH B)(p:inH C):Bd1 (cP (h2 A) (h2 B) (h2 C)):=by
 have:=j.2;have:=m.2;have:=p.2;refine⟨A+(B+C),6,?_,by omega,by omega,by omega,by omega⟩;rw[Rat.divInt_eq_div,vv,vv,vv];unfold cP;push_cast;grind
structure Ptr (f m:Rat->Rat->Rat->Rat):Prop where
 one:∀{A B C:Int},inH A->inH B->inH C->0<(A-B)*(A-C)->Bd1 (f (h2 A) (h2 B) (h2 C))/\Bd1 (m (h2 A) (h2 B) (h2 C)-f (h2 A) (h2 B) (h2 C))
 all:∀{A B C:Int},inH A->inH B->inH C->Bd1 (m (h2 A) (h2 B) (h2 C))
 rot:∀a b c,m b c a=m a b c
theorem ET:Ptr iY cP:=⟨FJ,E7,CX⟩
theorem pH{A B C:Int}(j:inH A)(m:inH B)(p:inH C)(h1:0<A↔¬0<B)(h2:0<A↔¬0<C):0<(A-B)*(A-C):=by
 have:=j.1;have:=m.1;have:=p.1;by_cases h:0<A
 ·exact Int.mul_pos (by omega) (by omega)
 ·rw[<-Int.neg_mul_neg];exact Int.mul_pos (by omega) (by omega)
def ptQ(f m:Rat->Rat->Rat->Rat)(A B C:Int):Rat:=ou f (m (h2 A) (h2 B) (h2 C)) (h2 A) (h2 B) (h2 C)
theorem GH{f m:Rat->Rat->Rat->Rat}(p:Ptr f m){A B C:Int}(j:inH A)(q:inH B)(z:inH C):Bd1 (ptQ f m A B C):=by
 unfold ptQ ou;rw[show m (h2 A) (h2 B) (h2 C)=m (h2 A) (h2 B) (h2 C)from rfl];by_cases a:0<A<;>by_cases b:0<B<;>by_cases c:0<C<;>simp only[rI,a,b,c,if_true,if_false]
 ·exact p.all j q z
 ·have:=(p.one z j q (pH z j q (by simp[a,c]) (by simp[b,c]))).2;rw[p.rot,p.rot]at this;rw[<-p.rot,<-p.rot,p.rot,p.rot];exact this
 ·have:=(p.one q z j (pH q z j (by simp[b,c]) (by simp[a,b]))).2;rw[p.rot]at this;exact this
 ·exact(p.one j q z (pH j q z (by simp[a,b]) (by simp[a,c]))).1
 ·exact(p.one j q z (pH j q z (by simp[a,b]) (by simp[a,c]))).2
 ·exact(p.one q z j (pH q z j (by simp[b,c]) (by simp[a,b]))).1
 ·exact(p.one z j q (pH z j q (by simp[a,c]) (by simp[b,c]))).1
 ·exact pr
end Go.L


set_option linter.all false
namespace Go.L
open Go Go.Eng
abbrev T4:=Bool×List Int×Bool×List Int
abbrev T12:=Bool×List Int×Bool×List Int×Bool×List Int×Bool×List Int×Bool×List Int×Bool×List Int
def rs(s:T4):ae:=ae.mk (ag.mk s.1 s.2.1) (ag.mk s.2.2.1 s.2.2.2)
def qd(w:ae):T4:=(w.Num.Negative,w.Num.Groups,w.Den.Negative,w.Den.Groups)
def r1(o:T12):ae:=ae.mk (ag.mk o.1 o.2.1) (ag.mk o.2.2.1 o.2.2.2.1)
def r2(o:T12):ae:=ae.mk (ag.mk o.2.2.2.2.1 o.2.2.2.2.2.1) (ag.mk o.2.2.2.2.2.2.1 o.2.2.2.2.2.2.2.1)
def r3(o:T12):ae:=ae.mk (ag.mk o.2.2.2.2.2.2.2.2.1 o.2.2.2.2.2.2.2.2.2.1) (ag.mk o.2.2.2.2.2.2.2.2.2.2.1 o.2.2.2.2.2.2.2.2.2.2.2)
def tp(x y z:ae):T12:=(x.Num.Negative,x.Num.Groups,x.Den.Negative,x.Den.Groups,y.Num.Negative,y.Num.Groups,y.Den.Negative,y.Den.Groups,z.Num.Negative,z.Num.Groups,z.Den.Negative,z.Den.Groups)
def C2(n:Nat)(gd:Bool)(e u1 j:Int):Option (Bool×List Int×Bool×List Int×Int):=
 gdO gd (bdO (gC n e 2) fun v=>bdO (bG n v.1) fun s=>cdO (decide (s>0)) (some (v.1.Num.Negative,v.1.Num.Groups,v.1.Den.Negative,v.1.Den.Groups,u1)) (some (v.1.Num.Negative,v.1.Num.Groups,v.1.Den.Negative,v.1.Den.Groups,j)))
def Dx(n:Nat)(up:Int):(T12->Option T12)->T12->Option T12:=fun again o=>
 bdO (bdO (bG n (r1 o)) fun a=>cdO ((decide (a>0))!=((up:Int)==1)) (some (Sum.inr ())) (bdO (bG n (r2 o)) fun b=>bdO (bG n (r3 o)) fun c=>cdO ((decide (b>0))!=(decide (c>0))) (some (Sum.inr ())) (some (Sum.inl ())))) fun(q:Sum Unit Unit)=>match q with
  |.inl _=>some o
  |.inr _=>again (tp (r2 o) (r3 o) (r1 o))
def rq(x:Bool×List Int×Bool×List Int×Int):ae:=ae.mk (ag.mk x.1 x.2.1) (ag.mk x.2.2.1 x.2.2.2.1)
def D9(n:Nat)(tip:ae->ae->ae->Option ae)(rest:ae->ae->ae->ae->Option ae)(Z:List Int)(level:Int)(t:A3 Int)(S:T4):Option T4:=
 bdO (C2 n (inR t.e0 Z.length) (Jt ((Jt (2*(gt Z t.e0)))-level)) 1 0) fun x=>
 bdO (C2 n (inR t.e1 Z.length) (Jt ((Jt (2*(gt Z t.e1)))-level)) (Jt (x.2.2.2.2+1)) x.2.2.2.2) fun y=>
 bdO (C2 n (inR t.e2 Z.length) (Jt ((Jt (2*(gt Z t.e2)))-level)) (Jt (y.2.2.2.2+1)) y.2.2.2.2) fun z=>
 cdO ((z.2.2.2.2:Int)==0) (some S) (cdO ((z.2.2.2.2:Int)==3) (bdO (aY n 0) fun u=>bdO (rest (rq x) (rq y) (rq z) u) fun v=>bdO (bU n (rs S) v) fun w=>some (qd w))
  (bdO (aK n (Dx n z.2.2.2.2) (tp (rq x) (rq y) (rq z))) fun o=>bdO (tip (r1 o) (r2 o) (r3 o)) fun v=>cdO ((z.2.2.2.2:Int)==2) (bdO (rest (r1 o) (r2 o) (r3 o) v) fun w=>bdO (bU n (rs S) w) fun q=>some (qd q)) (bdO (bU n (rs S) v) fun q=>some (qd q))))
theorem FO(n:Nat)(t:A3 Int)(a b c d e:Int)(Z:List Int)(level:Int)(S:T4):iE n t a b c d e Z level S.1 S.2.1 S.2.2.1 S.2.2.2=D9 n (fA n) (eF n) Z level t S:=rfl
theorem Bf{gd:Bool}{z level:Int}(p:gd=true)(C:-1048576<=z/\z<=1048576)(D:-2097153<=level/\level<=2097153)(u1 m:Int):
  Ok (C2 20000 gd (Jt ((Jt (2*z))-level)) u1 m) fun o=>Qx (rq o) (h2 (2*z-level)) 1/\o.2.2.2.2=if 0<2*z-level then u1 else m:=by
 unfold C2;rw[wrap64_in (n:=2*z) (by omega) (by omega),wrap64_in (by omega) (by omega)];refine Ok.gd p (Ok.bd (xb (by omega) (by omega) (by omega) (by omega) (by omega) (by omega)) ?_);rintro v ⟨q,-⟩;have j:Qx v.1 (h2 (2*z-level)) 1:=QL.tight q rfl (by omega) (by show-1000000000<2*z-level;omega) (by show 2*z-level<1000000000;omega) (by show(2:Int)<1000000000;omega);refine Ok.bde (tK (by omega) (by omega) j) (Ok.cd (fun h=>ar.2 ⟨j,?_⟩) (fun h=>ar.2 ⟨j,?_⟩))
 ·have:=rI.1 (CO.1 (dcT h));rw[if_pos this]
 ·rw[if_neg];intro k;exact dcF h (CO.2 (rI.2 k))
theorem jv{m:Nat}{x y z:ae}{a b c:Rat}{up:Int}(D:Qx x a 1)(E:Qx y b 1)(I:Qx z c 1){Q:T12->Prop}
  (h1:decide (0<a)=(up==1)->decide (0<b)=decide (0<c)->Q (tp x y z)) (h2:¬(decide (0<a)=(up==1)/\decide (0<b)=decide (0<c))->Ok (aK m (Dx 20000 up) (tp y z x)) Q):Ok (aK (m+1) (Dx 20000 up) (tp x y z)) Q:=by
 refine jJ ?_;have C:∀{u:ae} {r:Rat},Qx u r 1->∃s,bG 20000 u=some s/\decide (s>0)=decide (0<r):=fun h=>⟨_,tK (by omega) (by omega) h,by rw[decide_eq_decide];exact CO⟩
 obtain⟨s,e1,d1⟩:=C D;obtain⟨p,e2,d2⟩:=C E;obtain⟨q,J,d3⟩:=C I;unfold Dx;refine Ok.bd (R:=fun o=>(o=Sum.inl ()/\decide (0<a)=(up==1)/\decide (0<b)=decide (0<c))\/(o=Sum.inr ()/\¬(decide (0<a)=(up==1)/\decide (0<b)=decide (0<c)))) ?_ ?_
 ·refine Ok.bde e1 ?_;rw[d1];refine Ok.cd (fun h=>ar.2 (.inr ⟨rfl,fun k=>?_⟩)) (fun h=>Ok.bde e2 (Ok.bde J ?_))
  ·rw[k.1]at h;simp at h
  ·rw[d2,d3];refine Ok.cd (fun j=>ar.2 (.inr ⟨rfl,fun k=>?_⟩)) (fun j=>ar.2 (.inl ⟨rfl,by simpa using h,by simpa using j⟩));rw[k.2]at j;simp at j
 ·rintro o (⟨rfl,M,N⟩|⟨rfl,k⟩)
  ·exact ar.2 (h1 M N)
  ·exact h2 k
def Rot(a b c:Rat)(up:Int)(o:T12):Prop:=∃a' j p,Qx (r1 o) a' 1/\Qx (r2 o) j 1/\Qx (r3 o) p 1/\a'-j≠0/\a'-p≠0/\(∀m:Rat->Rat->Rat->Rat,(∀a b c,m b c a=m a b c)->m a' j p=m a b c)/\
 (∀f m,(up=1->ou f m a b c=f a' j p)/\(up=2->ou f m a b c=m-f a' j p))
def cn(a:Rat):Int:=if 0<a then 1 else 0
theorem Gp{x y z:ae}{a b c:Rat}{up:Int}(D:Qx x a 1)(E:Qx y b 1)(I:Qx z c 1)(hu:up=cn a+cn b+cn c)(J:up≠0)(M:up≠3):Ok (aK 20000 (Dx 20000 up) (tp x y z)) (Rot a b c up):=by
 have ne:∀{p q:Rat},(0<p↔¬0<q)->p-q≠0:=fun h e=>by grind
 unfold cn at hu;by_cases j:0<a<;>by_cases C:0<b<;>by_cases hc:0<c<;>simp only[j,C,hc,if_true,if_false]at hu<;>subst hu
 ·exact absurd rfl M
 ·refine jv (m:=19999) D E I (by simp[j,C,hc]) fun _=>jv (m:=19998) E I D (by simp[j,C,hc]) fun _=>jv (m:=19997) I D E (fun _ _=>⟨c,a,b,I,D,E,ne (by simp[j,hc]),ne (by simp[C,hc]),fun m hm=>by rw[hm,hm],fun f m=>⟨by simp,fun _=>by unfold ou;simp[j,C,hc]⟩⟩) (by simp[j,C,hc])
 ·refine jv (m:=19999) D E I (by simp[j,C,hc]) fun _=>jv (m:=19998) E I D (fun _ _=>⟨b,c,a,E,I,D,ne (by simp[C,hc]),ne (by simp[j,C]),fun m hm=>by rw[hm],fun f m=>⟨by simp,fun _=>by unfold ou;simp[j,C,hc]⟩⟩) (by simp[j,C,hc])
 ·refine jv (m:=19999) D E I (fun _ _=>⟨a,b,c,D,E,I,ne (by simp[j,C]),ne (by simp[j,hc]),fun m hm=>rfl,fun f m=>⟨fun _=>by unfold ou;simp[j,C,hc],by simp⟩⟩) (by simp[j,C,hc])
 ·refine jv (m:=19999) D E I (fun _ _=>⟨a,b,c,D,E,I,ne (by simp[j,C]),ne (by simp[j,hc]),fun m hm=>rfl,fun f m=>⟨by simp,fun _=>by unfold ou;simp[j,C,hc]⟩⟩) (by simp[j,C,hc])
 ·refine jv (m:=19999) D E I (by simp[j,C,hc]) fun _=>jv (m:=19998) E I D (fun _ _=>⟨b,c,a,E,I,D,ne (by simp[C,hc]),ne (by simp[j,C]),fun m hm=>by rw[hm],fun f m=>⟨fun _=>by unfold ou;simp[j,C,hc],by simp⟩⟩) (by simp[j,C,hc])
 ·refine jv (m:=19999) D E I (by simp[j,C,hc]) fun _=>jv (m:=19998) E I D (by simp[j,C,hc]) fun _=>jv (m:=19997) I D E (fun _ _=>⟨c,a,b,I,D,E,ne (by simp[j,hc]),ne (by simp[C,hc]),fun m hm=>by rw[hm,hm],fun f m=>⟨fun _=>by unfold ou;simp[j,C,hc],by simp⟩⟩) (by simp[j,C,hc])
 ·exact absurd rfl J
end Go.L


set_option linter.all false
namespace Go.L
open Go Go.Eng
theorem DR{x y z:ae}{a b c:Rat}(j:Qx x a 1)(m:Qx y b 1)(C:Qx z c 1)(h1:a-b≠0)(h2:a-c≠0):Ok (kF 20000 x y z) fun o=>Qx o (shQ a b c) 8:=by
 unfold kF;refine Ok.bd (ma (by omega) (by omega) j j) fun p hp=>Ok.bd (oN (by omega) (by omega) j m) fun q D=>Ok.bd (oN (by omega) (by omega) j C) fun r E=>?_
 refine Ok.bd (ma (by omega) (by omega) D E) fun s hs=>Ok.bd (tq (by omega) (by omega) hp hs (by grind)) fun o I=>ar.2 I
theorem Af{x:ae}{a:Rat}{k:Nat}(hk:k<=100)(j:Qx x a k):Ok (jD 20000 x) fun o=>Qx o (a / 3) (k+3):=by
 unfold jD;refine Ok.bd (gG (by omega) (by omega) (by omega)) fun u hu=>?_
 rw[Bo]at hu;exact Ok.bd (tq (by omega) (by omega) j hu (by grind)) fun o m=>ar.2 m
theorem EJ{x y z:ae}{a b c:Rat}(j:Qx x a 1)(C:Qx y b 1)(D:Qx z c 1)(h1:a-b≠0)(h2:a-c≠0):Ok (fA 20000 x y z) fun o=>Qx o (iY a b c) 25:=by
 unfold fA;refine Ok.bd (DR j C D h1 h2) fun p hp=>Ok.bd (ma (by omega) (by omega) j hp) fun q E=>Ok.bd (Af (by omega) E) fun o m=>ar.2 ?_
 have e:a*shQ a b c / 3=iY a b c:=by unfold shQ iY;grind
 rw[e]at m;exact QL.mono m (by omega)
theorem Da{x y z v:ae}{a b c r:Rat}(j:Qx x a 1)(m:Qx y b 1)(C:Qx z c 1)(D:Qx v r 25):Ok (eF 20000 x y z v) fun o=>Qx o (cP a b c-r) 40:=by
 unfold eF;refine Ok.bd (jj (by omega) (by omega) m C) fun p hp=>Ok.bd (jj (by omega) (by omega) j hp) fun q E=>Ok.bd (Af (by omega) E) fun s hs=>?_
 exact Ok.bd (oN (by omega) (by omega) hs D) fun o I=>ar.2 (QL.mono I (by omega))
structure Fns (tip:ae->ae->ae->Option ae) (rest:ae->ae->ae->ae->Option ae) (f m:Rat->Rat->Rat->Rat):Prop where
 tip:∀{x y z:ae} {a b c:Rat},Qx x a 1->Qx y b 1->Qx z c 1->a-b≠0->a-c≠0->Ok (tip x y z) fun o=>Qx o (f a b c) 25
 rest:∀{x y z v:ae} {a b c r:Rat},Qx x a 1->Qx y b 1->Qx z c 1->Qx v r 25->Ok (rest x y z v) fun o=>Qx o (m a b c-r) 40
 p:Ptr f m
theorem Hj:Fns (fA 20000) (eF 20000) iY cP:=⟨fun h1 h2 j m p=>EJ h1 h2 j m p,fun h1 h2 j m=>Da h1 h2 j m,ET⟩
theorem CL(A:Int):cn (h2 A)=if 0<A then 1 else 0:=by
 unfold cn;by_cases h:0<A
 ·rw[if_pos (rI.2 h),if_pos h]
 ·rw[if_neg (fun k=>h (rI.1 k)),if_neg h]
def hgt(Z:List Int)(level k:Int):Int:=2*gt Z k-level
def okZ(z:Int):Prop:=-1048576<=z/\z<=1048576
def okL(level:Int):Prop:=level.tmod 2≠0/\ -2097153<=level/\level<=2097153
theorem AP{Z:List Int}{level k:Int}(j:okZ (gt Z k))(m:okL level):inH (hgt Z level k):=by
 obtain⟨l1,l2,p⟩:=m;obtain⟨z1,z2⟩:=j;unfold hgt;refine⟨fun e=>l1 ?_,by omega,by omega⟩;rw[show level=2*gt Z k by omega,Int.mul_tmod_right]
theorem Du{tip:ae->ae->ae->Option ae}{rest:ae->ae->ae->ae->Option ae}{f m:Rat->Rat->Rat->Rat}(F:Fns tip rest f m){Z:List Int}{level:Int}{t:A3 Int}{S:T4}{s:Rat}
  (j:inR t.e0 Z.length=true/\inR t.e1 Z.length=true/\inR t.e2 Z.length=true) (J:okZ (gt Z t.e0)/\okZ (gt Z t.e1)/\okZ (gt Z t.e2)) (M:okL level) (I:Qx (rs S) s 95):
  Ok (D9 20000 tip rest Z level t S) fun o=>Qx (rs o) (s+ptQ f m (hgt Z level t.e0) (hgt Z level t.e1) (hgt Z level t.e2)) 136:=by
 unfold D9;refine Ok.bd (Bf j.1 J.1 M.2 1 0) ?_;rintro x ⟨N,ux⟩;refine Ok.bd (Bf j.2.1 J.2.1 M.2 _ _) ?_;rintro y ⟨O,uy⟩;refine Ok.bd (Bf j.2.2 J.2.2 M.2 _ _) ?_;rintro z ⟨q,uz⟩;have hu:z.2.2.2.2=cn (h2 (hgt Z level t.e0))+cn (h2 (hgt Z level t.e1))+cn (h2 (hgt Z level t.e2)):=by
  rw[CL,CL,CL,uz,uy,ux];show(if 0<hgt Z level t.e2 then Jt ((if 0<hgt Z level t.e1 then Jt ((if 0<hgt Z level t.e0 then 1 else 0)+1)else if 0<hgt Z level t.e0 then 1 else 0)+1)else if 0<hgt Z level t.e1 then Jt ((if 0<hgt Z level t.e0 then 1 else 0)+1)else if 0<hgt Z level t.e0 then 1 else 0)=_;by_cases C:0<hgt Z level t.e0<;>by_cases h1:0<hgt Z level t.e1<;>by_cases h2:0<hgt Z level t.e2<;>simp only[C,h1,h2,if_true,if_false]<;>rfl
 change Qx (rq x) (h2 (hgt Z level t.e0)) 1 at N;change Qx (rq y) (h2 (hgt Z level t.e1)) 1 at O;change Qx (rq z) (h2 (hgt Z level t.e2)) 1 at q;unfold ptQ;generalize z.2.2.2.2=up at hu ⊢;generalize h2 (hgt Z level t.e0)=a at*;generalize h2 (hgt Z level t.e1)=b at*;generalize h2 (hgt Z level t.e2)=c at*;have hc:∀r:Rat,cn r=0\/cn r=1:=fun r=>by unfold cn;split<;>simp
 have T:∀{r:Rat},cn r=1->0<r:=fun {r} h=>by unfold cn at h;split at h<;>simp_all
 have U:∀{r:Rat},cn r=0->¬0<r:=fun {r} h=>by unfold cn at h;split at h<;>simp_all
 have ca:=hc a;have cb:=hc b;have cc:=hc c;refine Ok.cd (fun h=>ar.2 ?_) (fun C=>Ok.cd (fun h=>?_) (fun Y=>?_))
 ·have h:up=0:=by simpa using h
  rw[show ou f (m a b c) a b c=0 by unfold ou;rw[if_neg (U (by omega)),if_neg (U (by omega)),if_neg (U (by omega))],show s+0=s by grind];exact QL.mono I (by omega)
 ·have h:up=3:=by simpa using h
  rw[show ou f (m a b c) a b c=m a b c by unfold ou;rw[if_pos (T (by omega)),if_pos (T (by omega)),if_pos (T (by omega))]];refine Ok.bd (gG (by omega) (by omega) (by omega)) fun u hu=>?_
  rw[uq]at hu;refine Ok.bd (F.rest N O q (QL.mono hu (by omega))) fun v D=>?_
  rw[show m a b c-0=m a b c by grind]at D;exact Ok.bd (jj (by omega) (by omega) I D) fun o E=>ar.2 E
 ·have C:up≠0:=by simpa using C
  have Y:up≠3:=by simpa using Y
  refine Ok.bd (Gp N O q hu C Y) ?_;rintro o ⟨a',b',c',g1,g2,g3,n1,n2,gm,gf⟩;refine Ok.bd (F.tip g1 g2 g3 n1 n2) fun v D=>?_
  refine Ok.cd (fun h=>?_) (fun h=>?_)
  ·have h:up=2:=by simpa using h
   rw[(gf f (m a b c)).2 h];refine Ok.bd (F.rest g1 g2 g3 D) fun w hw=>?_
   rw[gm m F.p.rot]at hw;exact Ok.bd (jj (by omega) (by omega) I hw) fun o E=>ar.2 E
  ·have h:up≠2:=by simpa using h
   rw[(gf f (m a b c)).1 (by omega)];exact Ok.bd (jj (by omega) (by omega) I D) fun o E=>ar.2 (QL.mono E (by omega))
def jS:List Rat->Rat
 |[]=>0
 |x::l=>x+jS l
theorem vB:∀l m:List Rat,jS (l++m)=jS l+jS m
 |[],m=>by show jS m=0+jS m;grind
 |x::l,m=>by show x+jS (l++m)=x+jS l+jS m;rw[vB l m];grind
def ptG(f m:Rat->Rat->Rat->Rat)(Z:List Int)(level:Int)(t:A3 Int):Rat:=ptQ f m (hgt Z level t.e0) (hgt Z level t.e1) (hgt Z level t.e2)
theorem z7{p:A3 Int->Rat}(pre:List (A3 Int))(t:A3 Int):jS ((pre++[t]).map p)=jS (pre.map p)+p t:=by
 rw[List.map_append,vB];show _+(p t+0)=_;grind
theorem zin{g:ak}{w h:Nat}(q:g.Z.any u9=false){t:A3 Int}(z:Gd g w h)(p:t∈qv g w h):(inR t.e0 g.Z.length=true/\inR t.e1 g.Z.length=true/\inR t.e2 g.Z.length=true)/\okZ (gt g.Z t.e0)/\okZ (gt g.Z t.e1)/\okZ (gt g.Z t.e2):=by
 unfold qv at p;rw[List.mem_filter]at p;obtain⟨i0,i1,i2⟩:=w7 z p.1;have j:=p.2;unfold iP at j;simp only[Bool.and_eq_true]at j;have key:∀{k:Int},inR k g.Z.length=true->(gt g.Z k != -2147483648)=true->okZ (gt g.Z k):=by
  intro k hk C;have D:=qa.1 hk;obtain⟨m,rfl⟩:∃m:Nat,k=(m:Int):=⟨k.toNat,by omega⟩;have hm:m<g.Z.length:=by omega
  have h1:gt g.Z (m:Int)∈g.Z:=by
   rw[fb];simp only[List.getD,geT hm,Option.getD_some];exact List.getElem_mem hm
  have:=List.any_eq_false.1 q _ h1;unfold u9 sy at this;rw[C]at this;simp at this;exact⟨by omega,by omega⟩
 exact⟨⟨i0,i1,i2⟩,key i0 j.1,key i1 j.2.1,key i2 j.2.2⟩
def Sm(f m:Rat->Rat->Rat->Rat)(Z:List Int)(level:Int)(pre:List (A3 Int))(c:T4):Prop:=Qx (rs c) (jS (pre.map (ptG f m Z level))) 95/\Bd (jS (pre.map (ptG f m Z level))) pre.length
theorem EA{tip:ae->ae->ae->Option ae}{rest:ae->ae->ae->ae->Option ae}{f m:Rat->Rat->Rat->Rat}(F:Fns tip rest f m){g:ak}{level:Int}{w h:Nat}(z:Gd g w h)(C:g.Z.any u9=false)(j:okL level)
  {pre:List (A3 Int)} {t:A3 Int} {c:T4} (D:t∈qv g w h) (hp:pre.length<56) (hc:Sm f m g.Z level pre c):Ok (D9 20000 tip rest g.Z level t c) (Sm f m g.Z level (pre++[t])):=by
 obtain⟨E,z0,z1,z2⟩:=zin C z D;refine(Du F E ⟨z0,z1,z2⟩ j hc.1).mono fun o I=>?_
 have q:=hc.2.add (GH F.p (AP z0 j) (AP z1 j) (AP z2 j));unfold Sm;rw[z7,List.length_append];exact⟨q.len (by omega) I,q⟩
theorem G5{w h:Nat}(hw:2<=w)(hh:2<=h)(hm:w*h<=40):2*((w-1)*(h-1))<=56:=by
 have h1:w*2<=w*h:=Nat.mul_le_mul_left w hh;have h2:2*h<=w*h:=Nat.mul_le_mul_right h hw;have:∀w,w<21->∀h,h<21->2<=w->2<=h->w*h<=40->2*((w-1)*(h-1))<=56:=by decide
 exact this w (by omega) h (by omega) hw hh hm
theorem GQ{g:ak}{level:Int}{w h:Nat}(j:Gd g w h)(z:g.Z.any u9=false)(q:g.Z.length<=40)(C:okL level){S:T4}(D:Sm iY cP g.Z level [] S)(a b c d e:Int):
  Ok (bV 20000 g a b c d e g.Z level S.1 S.2.1 S.2.2.1 S.2.2.2) (Sm iY cP g.Z level (qv g w h)):=by
 have E:=G5 j.w1.1 j.h1.1 (by rw[<-j.m];exact q);unfold bV;refine Ok.bd (R:=Sm iY cP g.Z level (qv g w h)) ?_ (fun o I=>ar.2 I);exact Cf (γ:=T4) (by omega) j (fun c x=>(c.1,c.2.1,c.2.2.1,c.2.2.2,x)) (fun t p=>iE 20000 t a b c d e g.Z level p.1 p.2.1 p.2.2.1 p.2.2.2)
  (fun _ _ _=>rfl) (fun _ _ _ _=>rfl) (fun _ _ _ _=>rfl) (Sm iY cP g.Z level) D fun pre t p J hp hc=>by
   rw[FO];exact EA Hj j z C J (by omega) hc
def arQ(g:ak):Rat:=Rat.divInt (g.Step*g.Step) 2
def FM(f m:Rat->Rat->Rat->Rat)(g:ak)(w h:Nat)(level:Int):Rat:=jS ((qv g w h).map (ptG f m g.Z level))*arQ g
theorem EH{g:ak}{w h:Nat}(j:Gd g w h):0<=g.Step*g.Step/\g.Step*g.Step<=4294967296:=by
 have hs:=j.dim.s;have s1:=Int.mul_le_mul hs.2 hs.2 (by omega) (by omega);have m:=Int.mul_nonneg (show 0<=g.Step by omega) (show 0<=g.Step by omega);omega
theorem Gf{f m:Rat->Rat->Rat->Rat}{Z:List Int}{level:Int}{u:ae}(hu:Qx u 0 3):Sm f m Z level [] (qd u):=⟨QL.mono hu (by omega),yS⟩
theorem B1{g:ak}{level:Int}{w h:Nat}(m:Gd g w h)(p:g.Z.any u9=false)(j:g.Z.length<=40)(q:okL level):Ok (bf 20000 g level) fun o=>Qx o (FM iY cP g w h level) 98:=by
 have D:=EH m;unfold bf;refine Ok.bd (gG (by omega) (by omega) (by omega)) fun u hu=>?_
 rw[uq]at hu;refine Ok.bd (GQ m p j q (S:=qd u) (Gf hu) _ _ _ _ _) fun v z=>?_
 rw[wrap64_in (by omega) (by omega)];refine Ok.bd (xb (by omega) (by omega) (by omega) (by omega) (by omega) (by omega)) ?_;rintro s ⟨hs,-⟩;exact Ok.bd (ma (x:=rs v) (by omega) (by omega) z.1 hs) fun o C=>ar.2 C
end Go.L


set_option linter.all false
namespace Go.L
open Go Go.Eng
theorem nn{a:Rat}(h:a≠0):(0< -a)↔¬0<a:=by constructor<;>intro k<;>grind
end Go.L


set_option linter.all false
namespace Go.L
open Go Go.Eng
theorem zD{p:A3 Int->Rat}{l:List (A3 Int)}{k:Nat}(h:k<l.length):jS ((l.take (k+1)).map p)=jS ((l.take k).map p)+p (l.getD k default):=by
 rw[List.take_add_one,geT h];have:l.getD k default=l[k]:=by simp[List.getD,geT h]
 rw[this];exact z7 _ _
def CH(c level:Int):Int:=if c≠0 then c else if level.tmod 2=0 then 1 else if level< -2097153 then 2 else if 2097153<level then 2 else 0
theorem HJ{α:Type}{c level:Int}:(cdO ((c:Int)!=0) (some c) (cdO (((level.tmod 2):Int)==0) (some 1) (cdO (decide (level<(-2097153))) (some 2) (cdO (decide (level>2097153)) (some 2) (some 0)))):Option Int)=some (CH c level):=by
 unfold CH;by_cases m:c=0
 ·subst m;by_cases h1:level.tmod 2=0
  ·rw[h1];rfl
  ·rw[show(level.tmod 2==0)=false by simpa using h1,if_neg (by simp),if_neg h1];by_cases h2:level< -2097153
   ·rw[decide_eq_true h2,if_pos h2];rfl
   ·rw[decide_eq_false h2,if_neg h2];by_cases j:level>2097153
    ·rw[decide_eq_true j,if_pos j];rfl
    ·rw[decide_eq_false j,if_neg j];rfl
 ·rw[show(c !=0)=true by simpa using m,if_pos m];rfl
theorem Gc(g:ak)(level:Int):gQ 20000 g level=some (CH (mh g) level):=by
 unfold gQ;rw[rQ (by omega)];exact HJ (α:=Int)
end Go.L

