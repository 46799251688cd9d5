import Derived.Test.YtglimpjlhfjgdaaGreatPl6Grds
import Derived.Test.YtglimpjlhfjgdaaGreatGrdL01p
import Derived.Test.YtglimpjlhfjgdaaGreatGrdL02sB
import Derived.Test.YtglimpjlhfjgdaaGreatGrdL01p
import Derived.Test.YtglimpjlhfjgdaaGreatGrdLD
import Derived.Test.YtglimpjlhfjgdaaGreatPl6Grds
import Derived.KernelRfl
import Derived.Test.YtglimpjlhfjgdaaGreatGrdL02sB
set_option linter.unusedVariables false
namespace Go.L
open Go Go.Eng
def iY(p q r:Rat):Rat:=p*(p*p) / (3*((p-q)*(p-r)))
def cP(a b c:Rat):Rat:=(a+(b+c)) / 3
theorem tZ(p q r:Rat):iY p q r=iY p r q:=by unfold iY;grind
theorem uv{p:Rat}(h:0<p):iY p 0 0=p / 3:=by
 have:p≠0:=by grind
 unfold iY;grind
structure SpQ (a b c x y:Rat):Prop where
 m:x-y=cP a b c
 p:0<=a->0<=b->0<=c->y=0
 n:a<=0->b<=0->c<=0->x=0
 u1:0<a->b<=0->c<=0->x=iY a b c
 u2:0<b->a<=0->c<=0->x=iY b a c
 u3:0<c->a<=0->b<=0->x=iY c a b
 d1:a<0->0<=b->0<=c->y=iY (-a) (-b) (-c)
 d2:b<0->0<=a->0<=c->y=iY (-b) (-a) (-c)
 d3:c<0->0<=a->0<=b->y=iY (-c) (-a) (-b)
theorem SpQ.s12{a b c x y:Rat}(h:SpQ a b c x y):SpQ b a c x y:=
 ⟨by rw[h.m];unfold cP;grind,fun h1 h2 j=>h.p h2 h1 j,fun h1 h2 j=>h.n h2 h1 j,fun h1 h2 j=>h.u2 h1 h2 j,fun h1 h2 j=>h.u1 h1 h2 j,fun h1 h2 j=>by rw[h.u3 h1 j h2,tZ],fun h1 h2 j=>h.d2 h1 h2 j,fun h1 h2 j=>h.d1 h1 h2 j,fun h1 h2 j=>by rw[h.d3 h1 j h2,tZ]⟩
theorem SpQ.s23{a b c x y:Rat}(h:SpQ a b c x y):SpQ a c b x y:=
 ⟨by rw[h.m];unfold cP;grind,fun h1 h2 j=>h.p h1 j h2,fun h1 h2 j=>h.n h1 j h2,fun h1 h2 j=>by rw[h.u1 h1 j h2,tZ],fun h1 h2 j=>h.u3 h1 h2 j,fun h1 h2 j=>h.u2 h1 h2 j,fun h1 h2 j=>by rw[h.d1 h1 j h2,tZ],fun h1 h2 j=>h.d3 h1 h2 j,fun h1 h2 j=>h.d2 h1 h2 j⟩
theorem SpQ.rot{a b c x y:Rat}(h:SpQ a b c x y):SpQ b c a x y:=h.s12.s23
theorem SpQ.neg{a b c x y:Rat}(h:SpQ a b c x y):SpQ (-a) (-b) (-c) y x:=by
 have e:∀z:Rat,- -z=z:=fun z=>by grind
 refine⟨?_,fun h1 h2 j=>h.n (by grind) (by grind) (by grind),fun h1 h2 j=>h.p (by grind) (by grind) (by grind),fun h1 h2 j=>h.d1 (by grind) (by grind) (by grind),fun h1 h2 j=>h.d2 (by grind) (by grind) (by grind),fun h1 h2 j=>h.d3 (by grind) (by grind) (by grind),fun h1 h2 j=>?_,fun h1 h2 j=>?_,fun h1 h2 j=>?_⟩
 ·have:=h.m;unfold cP at this ⊢;grind
 ·rw[e,e,e];exact h.u1 (by grind) (by grind) (by grind)
 ·rw[e,e,e];exact h.u2 (by grind) (by grind) (by grind)
 ·rw[e,e,e];exact h.u3 (by grind) (by grind) (by grind)
theorem Am(a b c:Rat):(0<=a/\0<=b/\0<=c)\/(a<=0/\b<=0/\c<=0)\/(0<a/\b<=0/\c<=0)\/(0<b/\a<=0/\c<=0)\/(0<c/\a<=0/\b<=0)\/(a<0/\0<=b/\0<=c)\/(b<0/\0<=a/\0<=c)\/(c<0/\0<=a/\0<=b):=by
 by_cases h1:0<=a<;>by_cases h2:0<=b<;>by_cases j:0<=c<;>by_cases m:a<=0<;>by_cases p:b<=0<;>by_cases q:c<=0<;>grind
theorem SpQ.uniq{a b c x y q z:Rat}(h:SpQ a b c x y)(k:SpQ a b c q z):x=q/\y=z:=by
 have m1:=h.m;have m2:=k.m;rcases Am a b c with⟨h1,h2,j⟩|⟨h1,h2,j⟩|⟨h1,h2,j⟩|⟨h1,h2,j⟩|⟨h1,h2,j⟩|⟨h1,h2,j⟩|⟨h1,h2,j⟩|⟨h1,h2,j⟩
 ·have:=h.p h1 h2 j;have:=k.p h1 h2 j;grind
 ·have:=h.n h1 h2 j;have:=k.n h1 h2 j;grind
 ·have:=h.u1 h1 h2 j;have:=k.u1 h1 h2 j;grind
 ·have:=h.u2 h1 h2 j;have:=k.u2 h1 h2 j;grind
 ·have:=h.u3 h1 h2 j;have:=k.u3 h1 h2 j;grind
 ·have:=h.d1 h1 h2 j;have:=k.d1 h1 h2 j;grind
 ·have:=h.d2 h1 h2 j;have:=k.d2 h1 h2 j;grind
 ·have:=h.d3 h1 h2 j;have:=k.d3 h1 h2 j;grind
theorem yZ{a b c:Rat}(h1:0<=a)(h2:0<=b)(z:0<=c):SpQ a b c (cP a b c) 0:=by
 have g:∀{p:Rat},0<=p->p<=0->p=0:=fun h k=>by grind
 refine⟨by grind,fun _ _ _=>rfl,fun j m q=>?_,fun j m q=>?_,fun j m q=>?_,fun j m q=>?_,fun j=>?_,fun j=>?_,fun j=>?_⟩
 ·rw[g h1 j,g h2 m,g z q];unfold cP;grind
 ·rw[g h2 m,g z q,uv j];unfold cP;grind
 ·rw[g h1 m,g z q,uv j];unfold cP;grind
 ·rw[g h1 m,g h2 q,uv j];unfold cP;grind
 ·grind
 ·grind
 ·grind
theorem BG{a b c:Rat}(h1:a<=0)(h2:b<=0)(j:c<=0):SpQ a b c 0 (-cP a b c):=by
 have h:=(yZ (a:=-a) (b:=-b) (c:=-c) (by grind) (by grind) (by grind)).neg;have e:∀z:Rat,- -z=z:=fun z=>by grind
 have em:cP (-a) (-b) (-c)=-cP a b c:=by unfold cP;grind
 rw[e,e,e,em]at h;exact h
theorem xi{a b c:Rat}(h1:0<a)(h2:b<=0)(z:c<=0):SpQ a b c (iY a b c) (iY a b c-cP a b c):=by
 have g:∀{p:Rat},0<=p->p<=0->p=0:=fun h k=>by grind
 refine⟨by grind,fun j q m=>?_,fun j=>by grind,fun _ _ _=>rfl,fun j=>by grind,fun j=>by grind,fun j=>by grind,fun j q m=>?_,fun j q m=>?_⟩
 ·rw[g q h2,g m z,uv h1];unfold cP;grind
 ·obtain rfl:=g m z;have C:a-b≠0:=by grind
  unfold iY cP;grind
 ·obtain rfl:=g m h2;have C:a-c≠0:=by grind
  unfold iY cP;grind
theorem zi{a b c:Rat}(h1:a<0)(h2:0<=b)(j:0<=c):SpQ a b c (iY (-a) (-b) (-c)+cP a b c) (iY (-a) (-b) (-c)):=by
 have h:=(xi (a:=-a) (b:=-b) (c:=-c) (by grind) (by grind) (by grind)).neg;have e:∀z:Rat,- -z=z:=fun z=>by grind
 have em:iY (-a) (-b) (-c)-cP (-a) (-b) (-c)=iY (-a) (-b) (-c)+cP a b c:=by unfold cP;grind
 rw[e,e,e,em]at h;exact h
end Go.L


set_option linter.all false
namespace Go.L
open Go Go.Eng
theorem C4{a:Rat}:a.num<=0↔a<=0:=by
 have h:=Rat.num_nonneg (q:=-a);rw[Rat.neg_num]at h;constructor
 ·intro k;have:=h.1 (by omega);grind
 ·intro k;have:=h.2 (by grind);omega
theorem Gg{a:Rat}:0<a.num↔0<a:=by
 have h:=C4 (a:=a);constructor
 ·intro k;apply Classical.byContradiction;intro hc;have:=h.2 (by grind);omega
 ·intro k;apply Classical.byContradiction;intro hc;have:=h.1 (by omega);grind
theorem Fx{a:Rat}:sgn a.num>=0↔0<=a:=by
 have:=cM a.num;rw[<-Rat.num_nonneg];omega
theorem By{a:Rat}:sgn a.num<=0↔a<=0:=by
 have:=cM a.num;rw[<-C4];omega
theorem CO{a:Rat}:sgn a.num>0↔0<a:=by
 have:=cM a.num;rw[<-Gg];omega
theorem tK{n:Nat}{x:ae}{a:Rat}{k:Nat}(m:20000<=n)(hk:k<=250)(p:Qx x a k):bG n x=some (sgn a.num):=by
 apply Ok.eq;unfold bG;refine Ok.bd (eJ m hk p) fun v j=>?_
 have q:=j.nl;exact Ok.bde (jK (by omega) (by omega) j.num) (ar.2 rfl)
theorem yT{n:Nat}{x y:ae}{a b:Rat}{j k:Nat}(z:20000<=n)(J:j<=30)(hk:k<=30)(D:Qx x a j)(E:Qx y b k):Ok (iU n x y) fun s=>s<0↔a<b:=by
 unfold iU;refine Ok.bd (eJ z (by omega) D) fun v m=>Ok.bd (eJ z (by omega) E) fun w hw=>?_
 have I:=m.nl;have n2:=hw.nl;have d1:=m.dl;have d2:=hw.dl;refine Ok.bd (kR (by omega) m.num hw.den (by omega) (by omega)) fun p hp=>Ok.bd (kR (by omega) hw.num m.den (by omega) (by omega)) fun q C=>?_
 have M:=eD m.num hw.den hp I d2;have N:=eD hw.num m.den C n2 d1;refine Ok.bde (qn (by omega) hp C (by omega) (by omega)) (ar.2 ?_);have:=cM (a.num*(b.den:Int)-b.num*(a.den:Int));rw[Rat.lt_iff];omega
theorem tq{n:Nat}{x y:ae}{a b:Rat}{j k:Nat}(C:20000<=n)(hk:j+k<=250)(M:Qx x a j)(N:Qx y b k)(O:b≠0):Ok (gg n x y) fun z=>Qx z.1 (a / b) (j+k):=by
 unfold gg;refine Ok.bd (eJ C (by omega) M) fun v m=>Ok.bd (eJ C (by omega) N) fun w hw=>?_
 have S:=m.nl;have n2:=hw.nl;have d1:=m.dl;have d2:=hw.dl;have D:=FW O;refine Ok.bde (jK (by omega) (by omega) hw.num) (Ok.cd (fun h=>?_) (fun _=>?_))
 ·have:sgn b.num=0:=by simpa using h
  have:=cM b.num;omega
 refine Ok.bd (kR (by omega) m.num hw.den (by omega) (by omega)) fun p hp=>Ok.bd (kR (by omega) m.den hw.num (by omega) (by omega)) fun q I=>?_
 have T:=eD m.num hw.den hp S d2;have U:=eD m.den hw.num I d1 n2;have E:(a.den:Int)*b.num≠0:=Int.mul_ne_zero (by have:=den_pos a;omega) D;refine Ok.bd (jV C hk hp I T U E) fun z J=>ar.2 ?_
 rw[EE]at J;exact J
theorem Bo:Rat.divInt 3 1=3:=by rw[ja];rfl
theorem uq:Rat.divInt 0 1=0:=by rw[ja];rfl
theorem Es:Rat.divInt 1 3=1 / 3:=by rw[Rat.divInt_eq_div];rfl
theorem BV{n:Nat}{x y z:ae}{p q r:Rat}(j:20000<=n)(m:Qx x p 1)(E:Qx y q 1)(I:Qx z r 1)(h1:p-q≠0)(h2:p-r≠0):Ok (kY n x y z) fun o=>Qx o (iY p q r) 12:=by
 unfold kY;refine Ok.bd (gG j (by omega) (by omega)) fun w hw=>Ok.bd (oN j (by omega) m E) fun a J=>Ok.bd (oN j (by omega) m I) fun b M=>?_
 refine Ok.bd (ma j (by omega) J M) fun c hc=>Ok.bd (ma j (by omega) hw hc) fun d D=>?_
 refine Ok.bd (ma j (by omega) m m) fun e he=>Ok.bd (ma j (by omega) m he) fun f N=>?_
 rw[Bo]at D;have C:(3:Rat)*((p-q)*(p-r))≠0:=by
  have:(p-q)*(p-r)≠0:=by grind
  grind
 exact Ok.bd (tq j (by omega) N D C) fun o O=>ar.2 O
theorem jJ{α β:Type}{n:Nat}{f:(α->Option β)->α->Option β}{a:α}{Q:β->Prop}(h:Ok (f (aK n f) a) Q):Ok (aK (n+1) f a) Q:=h
def Cu(a b c:Rat)(l:List ae):Prop:=∃p q s P R S,l=[p,q,s]/\Qx p P 1/\Qx q R 1/\Qx s S 1/\P<=R/\R<=S/\∀X Y,SpQ P R S X Y->SpQ a b c X Y
theorem nlt{a b:Rat}(h:¬a<b):b<=a:=by grind
theorem Gq{x y z:ae}{a b c:Rat}(I:Qx x a 1)(J:Qx y b 1)(C:Qx z c 1):Ok (aP 20000 [x,y,z] 0 3) (Cu a b c):=by
 unfold aP;rw[wrap64_in (n:=(0:Int)+1) (by omega) (by omega)];refine Ok.bd (R:=Cu a b c) ?_ (fun r h=>ar.2 h);refine jJ (n:=19999) ?_;refine Ok.cd (fun _=>?_) (fun h=>by simp at h);refine Ok.bd (R:=fun l=>∃p q P R,l=[p,q,z]/\Qx p P 1/\Qx q R 1/\P<=R/\∀X Y,SpQ P R c X Y->SpQ a b c X Y) ?_ ?_
 ·refine jJ (n:=19999) ?_;refine Ok.cd (fun _=>?_) (fun h=>by simp at h);dsimp only;rw[wrap64_in (n:=(0:Int)+1-1) (by omega) (by omega)];refine Ok.gd rfl (Ok.gd rfl (Ok.bd (yT (a:=b) (b:=a) (j:=1) (k:=1) (by omega) (by omega) (by omega) J I) fun s hs=>Ok.cd (fun h=>?_) (fun h=>?_)))
  ·have h:=hs.1 (dcT h);refine jJ (n:=19998) ?_;refine Ok.cd (fun h=>by simp at h) (fun _=>ar.2 ⟨y,x,b,a,rfl,J,I,Rat.le_of_lt h,fun X Y h=>h.s12⟩)
  ·have h:=fun k=>dcF h (hs.2 k)
   exact ar.2 ⟨x,y,a,b,rfl,I,J,nlt h,fun X Y h=>h⟩
 ·rintro l ⟨p,q,P,R,rfl,hp,E,D,m⟩;rw[wrap64_in (n:=(0:Int)+1+1) (by omega) (by omega)];refine jJ (n:=19998) ?_;refine Ok.cd (fun _=>?_) (fun h=>by simp at h);refine Ok.bd (R:=Cu a b c) ?_ ?_
  ·refine jJ (n:=19999) ?_;refine Ok.cd (fun _=>?_) (fun h=>by simp at h);dsimp only;rw[wrap64_in (n:=(0:Int)+1+1-1) (by omega) (by omega)];refine Ok.gd rfl (Ok.gd rfl (Ok.bd (yT (a:=c) (b:=R) (j:=1) (k:=1) (by omega) (by omega) (by omega) C E) fun s hs=>Ok.cd (fun h=>?_) (fun h=>?_)))
   ·have h1:=hs.1 (dcT h);refine jJ (n:=19998) ?_;refine Ok.cd (fun _=>?_) (fun h=>by simp at h);dsimp only;rw[wrap64_in (n:=(0:Int)+1+1-1-1) (by omega) (by omega)];refine Ok.gd rfl (Ok.gd rfl (Ok.bd (yT (a:=c) (b:=P) (j:=1) (k:=1) (by omega) (by omega) (by omega) C hp) fun s hs=>Ok.cd (fun h=>?_) (fun h=>?_)))
    ·have h2:=hs.1 (dcT h);refine jJ (n:=19997) ?_;exact Ok.cd (fun h=>by simp at h) (fun _=>ar.2 ⟨z,p,q,c,P,R,rfl,C,hp,E,Rat.le_of_lt h2,D,fun X Y h=>m X Y h.rot⟩)
    ·have h2:=fun k=>dcF h (hs.2 k)
     exact ar.2 ⟨p,z,q,P,c,R,rfl,hp,C,E,nlt h2,Rat.le_of_lt h1,fun X Y h=>m X Y h.s23⟩
   ·have h:=fun k=>dcF h (hs.2 k)
    exact ar.2 ⟨p,q,z,P,R,c,rfl,hp,E,C,D,nlt h,m⟩
  ·intro l M;rw[wrap64_in (n:=(0:Int)+1+1+1) (by omega) (by omega)];refine jJ (n:=19997) ?_;exact Ok.cd (fun h=>by simp at h) (fun _=>ar.2 M)
theorem CC{x y z:ae}{a b c:Rat}(j:Qx x a 1)(m:Qx y b 1)(p:Qx z c 1):Ok (aO 20000 [x,y,z]) (Cu a b c):=by
 unfold aO;refine Ok.bde (b:=2) (by kernel_rfl) (Ok.bd (R:=Cu a b c) ?_ (fun r h=>ar.2 h));unfold bl;refine Ok.bd (R:=Cu a b c) ?_ (fun r h=>ar.2 h);refine jJ (n:=19999) ?_;refine Ok.gd (by kernel_rfl) (Ok.bd (Gq j m p) fun r h=>ar.2 h)
theorem En{p q s:ae}{P R S:Rat}(hp:Qx p P 1)(m:Qx q R 1)(hs:Qx s S 1):Ok (lL 20000 [p,q,s]) fun o=>Qx o (0+P+R+S) 9:=by
 unfold lL;refine Ok.bd (gG (by omega) (by omega) (by omega)) fun w hw=>?_
 rw[uq]at hw;refine Ok.bd (R:=fun o=>Qx (ae.mk (ag.mk o.1 o.2.1) (ag.mk o.2.2.1 o.2.2.2)) (0+P+R+S) 9) ?_ (fun o z=>ar.2 z);refine jJ (n:=19999) ?_;refine Ok.cd (fun _=>?_) (fun h=>by simp at h);refine Ok.gd rfl (Ok.bd (jj (j:=3) (k:=1) (by omega) (by omega) hw hp) fun u hu=>?_);rw[wrap64_in (n:=(0:Int)+1) (by omega) (by omega)];refine jJ (n:=19998) ?_;refine Ok.cd (fun _=>?_) (fun h=>by simp at h);refine Ok.gd rfl (Ok.bd (jj (j:=5) (k:=1) (by omega) (by omega) hu m) fun v C=>?_);rw[wrap64_in (n:=(0:Int)+1+1) (by omega) (by omega)];refine jJ (n:=19997) ?_;refine Ok.cd (fun _=>?_) (fun h=>by simp at h);refine Ok.gd rfl (Ok.bd (jj (j:=7) (k:=1) (by omega) (by omega) C hs) fun t D=>?_);rw[wrap64_in (n:=(0:Int)+1+1+1) (by omega) (by omega)];refine jJ (n:=19996) ?_;exact Ok.cd (fun h=>by simp at h) (fun _=>ar.2 D)
structure Cq (x:ae) (r:Rat):Prop where
 p:Ok (bB 20000 x) fun z=>Qx z r 1
 l:Ok (cQ 20000 x) fun z=>Qx z r 1
theorem Gb{x y z:ae}{a b c:Rat}(Z:Cq x a)(hy:Cq y b)(hz:Cq z c):Ok (ia 20000 x y z) fun o=>∃X Y,SpQ a b c X Y/\Qx o.1 X 25/\Qx o.2 Y 25:=by
 unfold ia;refine Ok.bd Z.p fun x' E=>Ok.bd hy.p fun y' I=>Ok.bd hz.p fun z' J=>Ok.bd (CC E I J) ?_
 rintro l ⟨p,q,s,P,R,S,rfl,hp,D,hs,h1,h2,j⟩;refine Ok.gd rfl (Ok.bd (xb (by omega) (by omega) (by omega) (by omega) (by omega) (by omega)) fun t M=>Ok.bd (En hp D hs) fun u hu=>?_);have M:=M.1;refine Ok.bd (ma (by omega) (by omega) M hu) fun m hm=>?_
 have em:Rat.divInt 1 3*(0+P+R+S)=cP P R S:=by rw[Es];unfold cP;grind
 rw[em]at hm;refine Ok.bd (gG (by omega) (by omega) (by omega)) fun w hw=>?_
 rw[uq]at hw;refine Ok.gd rfl (Ok.bde (tK (k:=1) (by omega) (by omega) hp) (Ok.cd (fun h=>?_) (fun h=>?_)))
 ·have h:=Fx.1 (dcT h);exact ar.2 ⟨_,_,j _ _ (yZ h (by grind) (by grind)),QL.mono hm (by omega),QL.mono hw (by omega)⟩
 have h0:=fun k=>dcF h (Fx.2 k)
 refine Ok.gd rfl (Ok.bde (tK (k:=1) (by omega) (by omega) hs) (Ok.cd (fun h=>?_) (fun h=>?_)))
 ·have h:=By.1 (dcT h);refine Ok.bd (ql (by omega) (by omega) hm) fun v C=>ar.2 ⟨_,_,j _ _ (BG (by grind) (by grind) h),QL.mono hw (by omega),QL.mono C (by omega)⟩
 have h3:=fun k=>dcF h (By.2 k)
 refine Ok.gd rfl (Ok.bde (tK (k:=1) (by omega) (by omega) D) (Ok.cd (fun h=>?_) (fun h=>?_)))
 ·have h:=By.1 (dcT h);refine Ok.bd (BV (by omega) hs hp D (by grind) (by grind)) fun v C=>Ok.bd (oN (by omega) (by omega) C hm) fun k hk=>ar.2 ⟨_,_,j _ _ (SpQ.rot ?_),QL.mono C (by omega),hk⟩
  have:=xi (a:=S) (b:=P) (c:=R) (by grind) (by grind) h;have N:cP S P R=cP P R S:=by unfold cP;grind
  rw[N]at this;exact this
 ·have h:=fun k=>dcF h (By.2 k)
  refine Ok.bd (ql (by omega) (by omega) hp) fun p' O=>Ok.bd (ql (by omega) (by omega) D) fun q' T=>Ok.bd (ql (by omega) (by omega) hs) fun s' U=>?_
  refine Ok.bd (BV (by omega) O T U (by grind) (by grind)) fun v C=>Ok.bd (jj (by omega) (by omega) C hm) fun k hk=>ar.2 ⟨_,_,j _ _ ?_,hk,QL.mono C (by omega)⟩
  exact zi (by grind) (by grind) (by grind)
end Go.L


set_option linter.all false
namespace Go.L
open Go Go.Eng
theorem Cf{γ σ:Type}{n:Nat}{g:ak}{w h:Nat}(hn:200<n)(N:Gd g w h)(mk:γ->Int->σ)(visit:A3 Int->γ->Option γ)
  {f1:(σ->Option γ)->σ->Option γ} {f2:Int->(σ->Option γ)->σ->Option γ} {f3:List (A3 Int)->(σ->Option γ)->σ->Option γ}
  (h1:∀again c x,f1 again (mk c x)=cdO (decide (x<Jt (g.Height-1))) (bdO (aK n (f2 x) (mk c 0)) fun o=>again (mk o (Jt (x+1)))) (some c))
  (h2:∀J again c x,f2 J again (mk c x)=cdO (decide (x<Jt (g.Width-1))) (bdO (some (Jt ((Jt (J*g.Width))+x))) fun k=>bdO (some [A3.mk k (Jt (k+1)) (Jt ((Jt (k+g.Width))+1)),A3.mk k (Jt ((Jt (k+g.Width))+1)) (Jt (k+g.Width))]) fun L=>bdO (aK n (f3 L) (mk c 0)) fun o=>again (mk o (Jt (x+1)))) (some c))
  (h3:∀L again c x,f3 L again (mk c x)=cdO (decide (x<2)) (gdO (inR x L.length) (gdO (inR (gt L x).e0 g.Z.length) (cdO ((gt g.Z (gt L x).e0:Int)!=(-2147483648)) (gdO (inR (gt L x).e1 g.Z.length) (cdO ((gt g.Z (gt L x).e1:Int)!=(-2147483648)) (gdO (inR (gt L x).e2 g.Z.length) (cdO ((gt g.Z (gt L x).e2:Int)!=(-2147483648)) (
    bdO (visit (gt L x) c) fun v=>again (mk v (Jt (x+1)))) (again (mk c (Jt (x+1)))))) (again (mk c (Jt (x+1)))))) (again (mk c (Jt (x+1))))))) (some c))
  (P:List (A3 Int)->γ->Prop) {c0:γ} (O:P [] c0) (hv:∀pre t c,t∈qv g w h->pre.length<2*((w-1)*(h-1))->P pre c->Ok (visit t c) (P (pre++[t]))):Ok (aK n f1 (mk c0 0)) (P (qv g w h)):=by
 have hw:=N.w1;have hh:=N.h1;have hH:=N.H;have hW:=N.W;have e1:Jt (g.Height-1)=((h-1:Nat):Int):=by rw[hH,wrap64_in (by omega) (by omega)];omega
 have e2:Jt (g.Width-1)=((w-1:Nat):Int):=by rw[hW,wrap64_in (by omega) (by omega)];omega
 have mem:∀j i k,j<h-1->i<w-1->k<2->(im g.Width j i).getD k default∈cZ g.Width (w-1) (h-1):=by
  intro j i k U Y hk;unfold cZ Dt;refine List.mem_flatMap.2 ⟨j,List.mem_range.2 U,List.mem_flatMap.2 ⟨i,List.mem_range.2 Y,?_⟩⟩;have S:k<(im g.Width j i).length:=hk;simp only[List.getD,geT S,Option.getD_some];exact List.getElem_mem S
 refine lf (len:=h-1) mk (fun j c=>P ((cZ g.Width (w-1) j).filter (iP g.Z)) c) (by omega) (by omega) O ?_ ?_
 ·rintro again j c U hP ih;rw[h1 again c j,e1];refine Ok.cd (fun _=>?_) (fun h=>by have:=dcF h;omega);refine Ok.bd (R:=P ((cZ g.Width (w-1) (j+1)).filter (iP g.Z))) ?_ (fun o ho=>ih _ ho);refine lf (len:=w-1) mk (fun i c=>P ((cZ g.Width (w-1) j++(List.range i).flatMap (im g.Width j)).filter (iP g.Z)) c) (by omega) (by omega) (by simpa using hP) ?_ ?_
  ·rintro q i c Y E a1;rw[h2 j q c i,e2];refine Ok.cd (fun _=>?_) (fun h=>by have:=dcF h;omega);have C:∀k,k<2->inR ((im g.Width j i).getD k default).e0 g.Z.length=true/\inR ((im g.Width j i).getD k default).e1 g.Z.length=true/\inR ((im g.Width j i).getD k default).e2 g.Z.length=true:=fun k hk=>by rw[hW];exact yX N.m hw.2 hh.2 U Y k hk
   have hL:(im g.Width j i).length=2:=rfl;have I:∀k,k<2->(im g.Width j i).getD k default∈cZ g.Width (w-1) (h-1):=fun k hk=>mem j i k U Y hk
   show Ok (bdO (aK n (f3 (im g.Width j i)) (mk c 0)) fun o=>q (mk o (Jt ((i:Int)+1)))) _;refine Ok.bd (R:=P ((cZ g.Width (w-1) j++(List.range (i+1)).flatMap (im g.Width j)).filter (iP g.Z))) ?_ (fun o ho=>a1 _ ho);rw[xr,<-List.append_assoc,List.filter_append];have a6:(w-1)*(j+1)<=(w-1)*(h-1):=Nat.mul_le_mul_left _ (by omega);rw[Nat.mul_add,Nat.mul_one]at a6;have a7:((cZ g.Width (w-1) j++(List.range i).flatMap (im g.Width j)).filter (iP g.Z)).length+2<=2*((w-1)*(h-1)):=by
    have:=List.length_filter_le (iP g.Z) (cZ g.Width (w-1) j++(List.range i).flatMap (im g.Width j));rw[List.length_append,pT,wc,Nat.mul_assoc]at this;omega
   generalize (cZ g.Width (w-1) j++(List.range i).flatMap (im g.Width j)).filter (iP g.Z)=pre at E a7;generalize im g.Width j i=L at C hL I;refine lf (len:=2) mk (fun k c=>P (pre++(L.take k).filter (iP g.Z)) c) (by omega) (by omega) (by simpa using E) ?_ ?_
   ·rintro z k c hk D T;obtain⟨r0,r1,r2⟩:=C k hk;have hm:=I k hk;have M:=vq (L:=L) (p:=iP g.Z) (k:=k) (by omega);rw[<-fb]at r0 r1 r2 M hm;have no:iP g.Z (gt L (k:Int))=false->Ok (z (mk c (Jt ((k:Int)+1)))) (P (pre++L.filter (iP g.Z))):=fun h=>T _ (by rw[M,h];simpa using D)
    rw[h3];refine Ok.cd (fun _=>?_) (fun h=>by have:=dcF h;omega);refine Ok.gd (by rw[bb];exact decide_eq_true (by omega)) (Ok.gd r0 ?_);refine Ok.cd (fun O=>?_) (fun h=>no (by unfold iP;rw[h];rfl));refine Ok.gd r1 (Ok.cd (fun h1=>?_) (fun h=>no (by unfold iP;rw[O,h];rfl)));refine Ok.gd r2 (Ok.cd (fun h2=>?_) (fun h=>no (by unfold iP;rw[O,h1,h];rfl)));have hz:iP g.Z (gt L (k:Int))=true:=by unfold iP;rw[O,h1,h2];rfl
    refine Ok.bd (hv _ _ _ (List.mem_filter.2 ⟨hm,hz⟩) (by rw[List.length_append];have:=List.length_filter_le (iP g.Z) (L.take k);rw[List.length_take]at this;omega) D) fun v a8=>T v ?_
    rw[M,if_pos hz,<-List.append_assoc];exact a8
   ·rintro z c D;rw[h3];refine Ok.cd (fun h=>by simp at h) (fun _=>ar.2 ?_);rw[List.take_of_length_le (by omega)]at D;exact D
  ·rintro q c E;rw[h2 j q c,e2];refine Ok.cd (fun h=>by have:=dcT h;omega) (fun _=>ar.2 ?_);rw[wM];exact E
 ·rintro again c hP;rw[h1 again c,e1];exact Ok.cd (fun h=>by have:=dcT h;omega) (fun _=>ar.2 hP)
end Go.L


set_option linter.all false
namespace Go.L
open Go Go.Eng
end Go.L


set_option linter.unusedVariables false
namespace Go.L
open Go Go.Eng
def Bd1(r:Rat):Prop:=∃p q:Int,r=Rat.divInt p q/\0<q/\q<=1000000000000000/\ -100000000000000000000000<=p/\p<=100000000000000000000000
theorem Bd1.neg{r:Rat}(h:Bd1 r):Bd1 (-r):=by
 obtain⟨p,q,h1,h2,j,m,z⟩:=h;exact⟨-p,q,by rw[h1,Rat.neg_divInt],h2,j,by omega,by omega⟩
theorem pr:Bd1 0:=⟨0,1,by rw[ja];rfl,by omega,by omega,by omega,by omega⟩
def Bd(r:Rat)(i:Nat):Prop:=∃p q:Int,r=Rat.divInt p q/\0<q/\q<=1000000000000000^i/\ -(i*100000000*1000000000000000^i)<=p/\p<=i*100000000*1000000000000000^i
theorem yS:Bd 0 0:=⟨0,1,by rw[ja];rfl,by omega,by simp,by simp,by simp⟩
theorem Bd.add{r s:Rat}{i:Nat}(h:Bd r i)(k:Bd1 s):Bd (r+s) (i+1):=by
 obtain⟨p,q,h1,h2,C,D,E⟩:=h;obtain⟨u,v,J,M,z,N,O⟩:=k;have U:(0:Int)<1000000000000000^i:=Int.pow_pos (by omega);refine⟨p*v+u*q,q*v,?_,Int.mul_pos h2 M,?_,?_,?_⟩
 ·rw[h1,J,Rat.divInt_add_divInt _ _ (by omega) (by omega)]
 ·rw[Int.pow_succ];exact Int.mul_le_mul C z (by omega) (by omega)
 all_goals
  rw[Int.pow_succ]
  push_cast
  generalize (1000000000000000:Int)^i=P at*;generalize S:(i:Int)*100000000=I at*;have j:0<=I:=by omega
  have e:((i:Int)+1)*100000000*(P*1000000000000000)=I*P*1000000000000000+100000000*(P*1000000000000000):=by rw[Int.add_mul,S,Int.add_mul,Int.one_mul,Int.mul_assoc]
  have m:0<=I*P:=Int.mul_nonneg j (by omega);have m1:p*v<=I*P*v:=mrT E (by omega);have m2:I*P*v<=I*P*1000000000000000:=mlT z m;have m3:u*q<=100000000000000000000000*q:=mrT O (by omega);have T:-(I*P)*v<=p*v:=mrT D (by omega);rw[Int.neg_mul]at T;have Y:-100000000000000000000000*q<=u*q:=mrT N (by omega);rw[e];generalize I*P*v=Z at*;generalize I*P*1000000000000000=T2 at*;generalize p*v=T3 at*;generalize u*q=T4 at*;omega
theorem CN{i:Nat}(h:i<=56):(1000000000000000:Int)^i<=1000000000000000^56:=by
 obtain⟨j,m⟩:∃j,56=i+j:=⟨56-i,by omega⟩;rw[show(1000000000000000:Int)^56=1000000000000000^i*1000000000000000^j by rw[<-Int.pow_add,<-m]];have h1:(1:Int)<=1000000000000000^j:=Int.pow_pos (by omega);have h2:(0:Int)<1000000000000000^i:=Int.pow_pos (by omega);have:=mlT h1 (Int.le_of_lt h2);omega
theorem IN:(5600000000:Int)*1000000000000000^56<pB 95:=dcT (by kernel_rfl)
theorem Bd.len{nn m:Bool}{ng z:List Int}{r:Rat}{i j:Nat}(h:Bd r i)(C:i<=56)(q:QL nn ng m z r j):QL nn ng m z r 95:=by
 obtain⟨p,d,h1,h2,D,E,I⟩:=h;have hp:=CN C;have J:=IN;have N:(0:Int)<1000000000000000^i:=Int.pow_pos (by omega);have hm:(i:Int)*100000000*1000000000000000^i<=5600000000*1000000000000000^56:=Int.mul_le_mul (by omega) hp (by omega) (by omega);generalize (i:Int)*100000000*1000000000000000^i=M at*;generalize (1000000000000000:Int)^i=P at*;generalize (1000000000000000:Int)^56=R at*;exact QL.tight q h1 h2 (by omega) (by omega) (by omega)
end Go.L

