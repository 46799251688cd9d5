import Derived.Test.YtglimpjlhfjgdaaGreatSldL21e
set_option linter.all false
namespace Go.L
open Go Go.Eng
def sgK(k:Int)(u:A3 Int):Int:=u.e1-k*u.e0
def plV(u v:A3 Int):Int:=u.e0*v.e1-u.e1*v.e0
def sdK(k:Int)(u v:A3 Int):Int:=1*(u.e1*v.e2-u.e2*v.e1)+k*(u.e2*v.e0-u.e0*v.e2)+(k*k)*(u.e0*v.e1-u.e1*v.e0)
def dtV(u v w:A3 Int):Int:=u.e0*(v.e1*w.e2-v.e2*w.e1)+u.e1*(v.e2*w.e0-v.e0*w.e2)+u.e2*(v.e0*w.e1-v.e1*w.e0)
def psK(x y R g:Int):Int:=if 0<x/\y<=0/\R<0/\0<g then 1 else if x<=0/\0<y/\0<R/\g<0 then-1 else 0
def ctK(D a b g:Int):Int:=if 0<D/\0<a/\0<b/\0<g then 1 else if D<0/\a<0/\b<0/\g<0 then-1 else 0
def psE(k:Int)(u v:A3 Int):Int:=psK (sgK k u) (sgK k v) (plV u v) (sdK k u v)
def ctF(k:Int)(u v w:A3 Int):Int:=ctK (dtV u v w) (sdK k v w) (sdK k w u) (sdK k u v)
theorem F9(x y R g:Int):psK y x (-R) (-g)=-psK x y R g:=by
 unfold psK
 repeat' split
 all_goals omega
theorem Gk(k:Int)(u v:A3 Int):psE k v u=-psE k u v:=by
 unfold psE;rw[show plV v u=-plV u v by unfold plV;grind,show sdK k v u=-sdK k u v by unfold sdK;grind,F9]
theorem zl(D a b g:Int):ctK D a b g=ctK D b g a:=by
 unfold ctK
 repeat' split
 all_goals omega
theorem lD(a b:Int):a<b\/b<=a:=by omega
theorem ppI{a b:Int}(h:0<a)(k:0<b):0<a*b:=Int.mul_pos h k
theorem pnI{a b:Int}(h:0<a)(k:b<0):a*b<0:=Int.mul_neg_of_pos_of_neg h k
theorem npI{a b:Int}(h:a<0)(k:0<b):a*b<0:=Int.mul_neg_of_neg_of_pos h k
theorem nnI{a b:Int}(h:a<0)(k:b<0):0<a*b:=Int.mul_pos_of_neg_of_neg h k
theorem zzI{a b:Int}(h:0<=a)(k:0<=b):0<=a*b:=Int.mul_nonneg h k
theorem znI{a b:Int}(h:0<=a)(k:b<=0):a*b<=0:=Int.mul_nonpos_of_nonneg_of_nonpos h k
theorem nzI{a b:Int}(h:a<=0)(k:0<=b):a*b<=0:=Int.mul_nonpos_of_nonpos_of_nonneg h k
theorem xT{a b:Int}(h:a<=0)(k:b<=0):0<=a*b:=Int.mul_nonneg_of_nonpos_of_nonpos h k
theorem wj{a b:Int}(h:0<=b)(k:0<a*b):0<a:=by
 rcases Int.lt_trichotomy a 0 with c|c|c
 ·have:=nzI (a:=a) (b:=b) (by omega) h;omega
 ·subst c;omega
 ·exact c
theorem zS{a b:Int}(h:0<=b)(k:a*b<0):a<0:=by
 rcases Int.lt_trichotomy a 0 with c|c|c
 ·exact c
 ·subst c;omega
 ·have:=zzI (a:=a) (b:=b) (by omega) h;omega
theorem Fk{x y z Q R a b g D:Int}(j:0<x)(J:y<=0)(M:z<=0)(O:R<0↔0<Q)(e1:a*x+b*y+g*z=0)(e2:D*x=g*Q-b*R)(N:D≠0->a≠0/\b≠0/\g≠0):
  ctK D a b g=(if R<0/\0<g then 1 else 0)-(if 0<Q/\b<0 then 1 else 0):=by
 by_cases m:0<Q
 ·have q:=O.2 m;by_cases C:0<g
  ·by_cases p:b<0
   ·rw[if_pos ⟨q,C⟩,if_pos ⟨m,p⟩];unfold ctK;rw[if_neg (by omega),if_neg (by omega)];rfl
   ·have h1:=ppI C m;have h2:=znI (a:=b) (b:=R) (by omega) (by omega);have T:=wj (a:=D) (b:=x) (by omega) (by omega);have U:=N (by omega);have E:=znI (a:=b) (b:=y) (by omega) J;have I:=znI (a:=g) (b:=z) (by omega) M;have Y:0<a:=by
     rcases lD a 0 with c|c
     ·have:=npI c j;omega
     ·omega
    rw[if_pos ⟨q,C⟩,if_neg (by omega)];unfold ctK;rw[if_pos (by omega)];rfl
  ·rw[if_neg (by omega:¬(R<0/\0<g))];by_cases p:b<0
   ·have h1:=nzI (a:=g) (b:=Q) (by omega) (by omega);have h2:=nnI p q;have T:=zS (a:=D) (b:=x) (by omega) (by omega);have U:=N (by omega);have E:=xT (a:=b) (b:=y) (by omega) J;have I:=xT (a:=g) (b:=z) (by omega) M;have Y:a<0:=by
     rcases lD 0 a with c|c
     ·have:=ppI c j;omega
     ·omega
    rw[if_pos ⟨m,p⟩];unfold ctK;rw[if_neg (by omega),if_pos (by omega)];rfl
   ·rw[if_neg (by omega)];unfold ctK;rw[if_neg (by omega),if_neg (by omega)];rfl
 ·rw[if_neg (by omega:¬(R<0/\0<g)),if_neg (by omega:¬(0<Q/\b<0))];unfold ctK;rw[if_neg ?_,if_neg ?_]
  ·rfl
  ·rintro⟨h1,h2,E,I⟩;have:=xT (a:=g) (b:=Q) (by omega) (by omega);have:=nzI (a:=b) (b:=R) (by omega) (by omega);have:=npI h1 j;omega
  ·rintro⟨h1,h2,E,I⟩;have:=znI (a:=g) (b:=Q) (by omega) (by omega);have:=zzI (a:=b) (b:=R) (by omega) (by omega);have:=ppI h1 j;omega
theorem Fz{x y z Q R a b g D:Int}(C:x<=0)(J:0<y)(M:0<z)(T:0<R↔Q<0)(e1:a*x+b*y+g*z=0)(e2:D*x=g*Q-b*R)(O:D≠0->a≠0/\b≠0/\g≠0):
  ctK D a b g=(if Q<0/\0<b then 1 else 0)-(if 0<R/\g<0 then 1 else 0):=by
 by_cases E:Q<0
 ·have N:=T.2 E;by_cases I:0<b
  ·by_cases m:g<0
   ·rw[if_pos ⟨E,I⟩,if_pos ⟨N,m⟩];unfold ctK;rw[if_neg (by omega),if_neg (by omega)];rfl
   ·have h1:=znI (a:=g) (b:=Q) (by omega) (by omega);have h2:=ppI I N;have U:0<D:=by
     rcases lD 0 D with c|c
     ·exact c
     ·have:=xT (a:=D) (b:=x) (by omega) C;omega
    have Y:=O (by omega);have p:=ppI I J;have q:=zzI (a:=g) (b:=z) (by omega) (by omega);have ha:0<a:=by
     rcases lD 0 a with c|c
     ·exact c
     ·have:=xT (a:=a) (b:=x) (by omega) C;omega
    rw[if_pos ⟨E,I⟩,if_neg (by omega)];unfold ctK;rw[if_pos (by omega)];rfl
  ·rw[if_neg (by omega:¬(Q<0/\0<b))];by_cases m:g<0
   ·have h1:=nnI m E;have h2:=nzI (a:=b) (b:=R) (by omega) (by omega);have U:D<0:=by
     rcases lD D 0 with c|c
     ·exact c
     ·have:=znI (a:=D) (b:=x) c C;omega
    have Y:=O (by omega);have p:=nzI (a:=b) (b:=y) (by omega) (by omega);have q:=npI m M;have ha:a<0:=by
     rcases lD a 0 with c|c
     ·exact c
     ·have:=znI (a:=a) (b:=x) c C;omega
    rw[if_pos ⟨N,m⟩];unfold ctK;rw[if_neg (by omega),if_pos (by omega)];rfl
   ·rw[if_neg (by omega)];unfold ctK;rw[if_neg (by omega),if_neg (by omega)];rfl
 ·rw[if_neg (by omega:¬(Q<0/\0<b)),if_neg (by omega:¬(0<R/\g<0))];unfold ctK;rw[if_neg ?_,if_neg ?_]
  ·rfl
  ·rintro⟨h1,h2,p,q⟩;have:=nzI (a:=g) (b:=Q) (by omega) (by omega);have:=xT (a:=b) (b:=R) (by omega) (by omega);have:=npI p J;have:=npI q M;have j:x<0:=by
    rcases lD x 0 with c|c
    ·exact c
    ·have:=nzI (a:=a) (b:=x) (by omega) c;omega
   have:=nnI h1 j;omega
  ·rintro⟨h1,h2,p,q⟩;have:=zzI (a:=g) (b:=Q) (by omega) (by omega);have:=znI (a:=b) (b:=R) (by omega) (by omega);have:=ppI p J;have:=ppI q M;have j:x<0:=by
    rcases lD x 0 with c|c
    ·exact c
    ·have:=zzI (a:=a) (b:=x) (by omega) c;omega
   have:=pnI h1 j;omega
theorem Iz{x y z a b g D:Int}(p:0<x)(q:0<y)(C:0<z)(e1:a*x+b*y+g*z=0):ctK D a b g=0:=by
 unfold ctK;rw[if_neg ?_,if_neg ?_]
 ·rintro⟨h1,h2,j,m⟩;have:=npI h2 p;have:=npI j q;have:=npI m C;omega
 ·rintro⟨h1,h2,j,m⟩;have:=ppI h2 p;have:=ppI j q;have:=ppI m C;omega
theorem IK{x y z a b g D:Int}(j:x<=0)(m:y<=0)(C:z<=0)(e1:a*x+b*y+g*z=0)(e0:x=0->y=0->z=0->D=0):ctK D a b g=0:=by
 unfold ctK;rw[if_neg ?_,if_neg ?_]
 ·rintro⟨h1,h2,E,I⟩;have t1:=xT (a:=a) (by omega) j;have t2:=xT (a:=b) (by omega) m;have t3:=xT (a:=g) (by omega) C;have u:∀{p q:Int},p<0->q<=0->p*q=0->q=0:=fun {p q} hp J h=>by
   rcases Int.mul_eq_zero.1 h with c|c<;>omega
  have:=e0 (u h2 j (by omega)) (u E m (by omega)) (u I C (by omega));omega
 ·rintro⟨h1,h2,E,I⟩;have t1:=znI (a:=a) (by omega) j;have t2:=znI (a:=b) (by omega) m;have t3:=znI (a:=g) (by omega) C;have u:∀{p q:Int},0<p->q<=0->p*q=0->q=0:=fun {p q} hp J h=>by
   rcases Int.mul_eq_zero.1 h with c|c<;>omega
  have:=e0 (u h2 j (by omega)) (u E m (by omega)) (u I C (by omega));omega
end Go.L


set_option linter.all false
namespace Go.L
open Go Go.Eng
theorem pJ{x y R g:Int}(h:0<x↔0<y):psK x y R g=0:=by
 unfold psK;rw[if_neg (by omega),if_neg (by omega)]
theorem yj{x y R g:Int}(j:0<x)(m:y<=0):psK x y R g=if R<0/\0<g then 1 else 0:=by
 unfold psK;by_cases h:R<0/\0<g
 ·rw[if_pos ⟨j,m,h.1,h.2⟩,if_pos h]
 ·rw[if_neg (by omega),if_neg (by omega),if_neg h]
theorem yC{x y R g:Int}(j:x<=0)(m:0<y):psK x y R g=-(if 0<R/\g<0 then 1 else 0):=by
 unfold psK;by_cases h:0<R/\g<0
 ·rw[if_neg (by omega),if_pos ⟨j,m,h.1,h.2⟩,if_pos h]
 ·rw[if_neg (by omega),if_neg (by omega),if_neg h];rfl
theorem Ht{R Q t:Int}(h1:R*t<0)(h2:0<Q*t):R<0↔0<Q:=by
 rcases Int.lt_trichotomy t 0 with c|c|c
 ·constructor
  ·intro h;have:=nnI h c;omega
  ·intro h;have:=pnI h c;omega
 ·subst c;omega
 ·exact⟨fun _=>wj (by omega) h2,fun _=>zS (by omega) h1⟩
theorem Ju{R Q t:Int}(h1:0<R*t)(h2:Q*t<0):0<R↔Q<0:=by
 have:=Ht (R:=Q) (Q:=R) h2 h1;exact this.symm
theorem G0{x y z P Q R a b g D t E I J:Int}(O:0<E)(T:0<I)(U:0<J)(e1:a*x+b*y+g*z=0)(eX:D*x=g*Q-b*R)(eY:D*y=a*R-g*P)(eZ:D*z=b*P-a*Q)
  (tR:R*t=y*E-x*I) (tQ:Q*t=x*J-z*E) (tP:P*t=z*I-y*J) (e0:x=0->y=0->z=0->D=0) (Y:D≠0->a≠0/\b≠0/\g≠0):ctK D a b g=psK x y R g+psK y z P a+psK z x Q b:=by
 have M:b*y+g*z+a*x=0:=by omega
 have q:g*z+a*x+b*y=0:=by omega
 have N:D≠0->b≠0/\g≠0/\a≠0:=fun h=>by have:=Y h;omega
 have C:D≠0->g≠0/\a≠0/\b≠0:=fun h=>by have:=Y h;omega
 have r1:=zl D a b g;have r2:=zl D b g a;rcases lD 0 x with j|j<;>rcases lD 0 y with m|m<;>rcases lD 0 z with p|p
 ·rw[pJ (by omega),pJ (by omega),pJ (by omega),Iz j m p e1];rfl
 ·
  have m1:=ppI j U;have m2:=nzI (a:=z) (b:=E) p (by omega);have m3:=nzI (a:=z) (b:=I) p (by omega);have m4:=ppI m U;have o:=Fz (x:=z) (y:=x) (z:=y) (Q:=P) (R:=Q) (a:=g) (b:=a) (g:=b) (D:=D) p j m (Ju (t:=t) (by omega) (by omega)) q eZ C;rw[pJ (by omega),yj m p,yC p j];omega
 ·have m1:=ppI j T;have m2:=nzI (a:=y) (b:=E) m (by omega);have m3:=ppI p T;have m4:=nzI (a:=y) (b:=J) m (by omega);have o:=Fz (x:=y) (y:=z) (z:=x) (Q:=R) (R:=P) (a:=b) (b:=g) (g:=a) (D:=D) m p j (Ju (t:=t) (by omega) (by omega)) M eY N;rw[yj j m,yC m p,pJ (by omega)];omega
 ·have m1:=ppI j T;have m2:=nzI (a:=y) (b:=E) m (by omega);have m3:=ppI j U;have m4:=nzI (a:=z) (b:=E) p (by omega);have o:=Fk (x:=x) (y:=y) (z:=z) (Q:=Q) (R:=R) (a:=a) (b:=b) (g:=g) (D:=D) j m p (Ht (t:=t) (by omega) (by omega)) e1 eX Y;rw[yj j m,pJ (by omega),yC p j];omega
 ·have m1:=nzI (a:=x) (b:=I) j (by omega);have m2:=ppI m O;have m3:=nzI (a:=x) (b:=J) j (by omega);have m4:=ppI p O;have o:=Fz (x:=x) (y:=y) (z:=z) (Q:=Q) (R:=R) (a:=a) (b:=b) (g:=g) (D:=D) j m p (Ju (t:=t) (by omega) (by omega)) e1 eX Y;rw[yC j m,pJ (by omega),yj p j];omega
 ·have m1:=nzI (a:=x) (b:=I) j (by omega);have m2:=ppI m O;have m3:=nzI (a:=z) (b:=I) p (by omega);have m4:=ppI m U;have o:=Fk (x:=y) (y:=z) (z:=x) (Q:=R) (R:=P) (a:=b) (b:=g) (g:=a) (D:=D) m p j (Ht (t:=t) (by omega) (by omega)) M eY N;rw[yC j m,yj m p,pJ (by omega)];omega
 ·have m1:=nzI (a:=x) (b:=J) j (by omega);have m2:=ppI p O;have m3:=ppI p T;have m4:=nzI (a:=y) (b:=J) m (by omega);have o:=Fk (x:=z) (y:=x) (z:=y) (Q:=P) (R:=Q) (a:=g) (b:=a) (g:=b) (D:=D) p j m (Ht (t:=t) (by omega) (by omega)) q eZ C;rw[pJ (by omega),yC m p,yj p j];omega
 ·rw[pJ (by omega),pJ (by omega),pJ (by omega),IK j m p e1 e0];rfl
def okK(k:Int)(u v w:A3 Int):Prop:=dtV u v w≠0->sdK k v w≠0/\sdK k w u≠0/\sdK k u v≠0
theorem Ha{k p q:Int}{u v w:A3 Int}(m:0<p*u.e0+q*u.e1)(z:0<p*v.e0+q*v.e1)(C:0<p*w.e0+q*w.e1)(ok:okK k u v w):ctF k u v w=psE k u v+psE k v w+psE k w u:=by
 unfold ctF psE;refine G0 (t:=p+q*k) m z C ?_ ?_ ?_ ?_ ?_ ?_ ?_ ?_ ok
 ·unfold sdK sgK;grind
 ·unfold sdK sgK dtV plV;grind
 ·unfold sdK sgK dtV plV;grind
 ·unfold sdK sgK dtV plV;grind
 ·unfold sgK plV;grind
 ·unfold sgK plV;grind
 ·unfold sgK plV;grind
 ·intro h1 h2 j;have h1:u.e1=k*u.e0:=by unfold sgK at h1;omega
  have h2:v.e1=k*v.e0:=by unfold sgK at h2;omega
  have j:w.e1=k*w.e0:=by unfold sgK at j;omega
  unfold dtV;rw[h1,h2,j];grind
def EN(c y z P:Int):Int:=if 0<c then(if y<0/\0<z/\0<P then 1 else if 0<y/\z<0/\P<0 then-1 else 0)else 0
set_option maxHeartbeats 2000000 in
theorem GG{k:Int}{u v w:A3 Int}(p:u.e0=0)(h1:u.e1=0)(hc:u.e2≠0)(ok:okK k u v w):ctF k u v w=psE k u v+psE k v w+psE k w u+EN u.e2 (sgK k v) (sgK k w) (plV v w):=by
 have I:dtV u v w=u.e2*plV v w:=by unfold dtV plV;rw[p,h1];grind
 have J:sdK k u v=-(u.e2*sgK k v):=by unfold sdK sgK;rw[p,h1];grind
 have M:sdK k w u=u.e2*sgK k w:=by unfold sdK sgK;rw[p,h1];grind
 have N:psE k u v=0:=by
  unfold psE;rw[show plV u v=0 by unfold plV;rw[p,h1];grind];unfold psK;rw[if_neg (by omega),if_neg (by omega)]
 have O:psE k w u=0:=by
  unfold psE;rw[show plV w u=0 by unfold plV;rw[p,h1];grind];unfold psK;rw[if_neg (by omega),if_neg (by omega)]
 rw[N,O];unfold okK at ok;unfold ctF psE;rw[I,J,M]at ok ⊢;generalize sgK k v=y at*;generalize sgK k w=z at*;generalize plV v w=P at*;generalize sdK k v w=a at*;generalize u.e2=c at*;clear I J M N O p h1;have E:∀m:Int,m<0\/m=0\/0<m:=fun m=>by omega
 rcases E P with j|j|j
 rotate_left
 ·subst j;rw[Int.mul_zero];unfold ctK psK EN;rw[if_neg (by omega),if_neg (by omega),if_neg (by omega),if_neg (by omega)];split
  ·rw[if_neg (by omega),if_neg (by omega)];rfl
  ·rfl
 all_goals
  have T:c*P≠0:=fun h=>by rcases Int.mul_eq_zero.1 h with h|h<;>omega
  obtain⟨ha,U,hg⟩:=ok T;have q:z≠0:=fun h=>U (by rw[h,Int.mul_zero])
  have C:y≠0:=fun h=>hg (by rw[h,Int.mul_zero];rfl)
  clear ok;rcases (by omega:c<0\/0<c)with hc|hc<;>rcases (by omega:y<0\/0<y)with C|C<;>rcases (by omega:z<0\/0<z)with q|q
 all_goals
  first|have m1:=ppI hc j|have m1:=pnI hc j|have m1:=npI hc j|have m1:=nnI hc j
  first|have m2:=ppI hc C|have m2:=pnI hc C|have m2:=npI hc C|have m2:=nnI hc C
  first|have m3:=ppI hc q|have m3:=pnI hc q|have m3:=npI hc q|have m3:=nnI hc q
  unfold ctK psK EN;generalize c*P=D at*;generalize c*y=Y at*;generalize c*z=Z at*
  repeat' split
 all_goals omega
end Go.L


set_option linter.all false
namespace Go.L
open Go Go.Eng
def crV(u v:A3 Int):A3 Int:=A3.mk (u.e1*v.e2-u.e2*v.e1) (u.e2*v.e0-u.e0*v.e2) (u.e0*v.e1-u.e1*v.e0)
def dV(u v:A3 Int):Int:=u.e0*v.e0+u.e1*v.e1+u.e2*v.e2
def nV(u v w:A3 Int):A3 Int:=A3.mk ((crV u v).e0+((crV v w).e0+(crV w u).e0)) ((crV u v).e1+((crV v w).e1+(crV w u).e1)) ((crV u v).e2+((crV v w).e2+(crV w u).e2))
theorem sqI(a:Int):0<=a*a:=by
 rcases lD a 0 with h|h
 ·exact xT (by omega) (by omega)
 ·exact zzI h h
theorem sq0{a:Int}(h:a*a=0):a=0:=by rcases Int.mul_eq_zero.1 h with c|c<;>exact c
theorem FR{a b c:Int}(h:a*a+b*b+c*c=0):a=0/\b=0/\c=0:=by
 have h1:0<=a*a:=sqI a;have h2:0<=b*b:=sqI b;have j:0<=c*c:=sqI c;exact⟨sq0 (by omega),sq0 (by omega),sq0 (by omega)⟩
theorem Jl{u:A3 Int}(h:¬(u.e0=0/\u.e1=0/\u.e2=0)):0<dV u u:=by
 have h1:0<=u.e0*u.e0:=sqI _;have h2:0<=u.e1*u.e1:=sqI _;have j:0<=u.e2*u.e2:=sqI _;rcases Int.lt_or_eq_of_le (show 0<=dV u u by unfold dV;omega)with c|c
 ·exact c
 ·exact absurd (FR (a:=u.e0) (b:=u.e1) (c:=u.e2) c.symm) h
theorem LG(f u v w m:A3 Int):dV (crV v w) m*dV f u+dV (crV w u) m*dV f v+dV (crV u v) m*dV f w=dtV u v w*dV f m:=by
 have e0:dV (crV v w) m*u.e0+dV (crV w u) m*v.e0+dV (crV u v) m*w.e0=dtV u v w*m.e0:=by unfold dV crV dtV;grind
 have e1:dV (crV v w) m*u.e1+dV (crV w u) m*v.e1+dV (crV u v) m*w.e1=dtV u v w*m.e1:=by unfold dV crV dtV;grind
 have e2:dV (crV v w) m*u.e2+dV (crV w u) m*v.e2+dV (crV u v) m*w.e2=dtV u v w*m.e2:=by unfold dV crV dtV;grind
 generalize dV (crV v w) m=a at*;generalize dV (crV w u) m=b at*;generalize dV (crV u v) m=c at*;generalize dtV u v w=D at*;unfold dV;grind
theorem HN{f u v w:A3 Int}(hu:0<dV f u)(j:0<dV f v)(hw:0<dV f w)(C:dtV u v w=0)(I:dV (nV u v w) (nV u v w)≠0)(h1:0<=dV (crV u v) (nV u v w))(h2:0<=dV (crV v w) (nV u v w))(D:0<=dV (crV w u) (nV u v w)):False:=by
 have b:=LG f u v w (nV u v w);rw[C,Int.zero_mul]at b;have s:dV (nV u v w) (nV u v w)=dV (crV u v) (nV u v w)+(dV (crV v w) (nV u v w)+dV (crV w u) (nV u v w)):=by
  generalize hm:nV u v w=m;have:dV (nV u v w) m=dV (crV u v) m+(dV (crV v w) m+dV (crV w u) m):=by unfold nV dV;grind
  rw[<-this,hm]
 have z:∀{p q:Int},0<=p->0<q->0<=p*q:=fun hp E=>Int.mul_nonneg hp (by omega)
 have J:=z h2 hu;have a2:=z D j;have a3:=z h1 hw;have y:∀{p q:Int},0<q->p*q=0->p=0:=fun {p q} E h=>by rcases Int.mul_eq_zero.1 h with c|c<;>omega
 have:=y hu (by omega:dV (crV v w) (nV u v w)*dV f u=0);have:=y j (by omega:dV (crV w u) (nV u v w)*dV f v=0);have:=y hw (by omega:dV (crV u v) (nV u v w)*dV f w=0);omega
theorem He{f u v:A3 Int}(hu:0<dV f u)(j:0<dV f v)(m:dV (crV u v) (crV u v)=0):0<dV u v:=by
 obtain⟨z0,z1,z2⟩:=FR m;have e0:dV f u*v.e0=dV f v*u.e0:=by unfold crV at z0 z1 z2;unfold dV;grind
 have e1:dV f u*v.e1=dV f v*u.e1:=by unfold crV at z0 z1 z2;unfold dV;grind
 have e2:dV f u*v.e2=dV f v*u.e2:=by unfold crV at z0 z1 z2;unfold dV;grind
 have e:dV u v*dV f u=dV f v*dV u u:=by
  generalize dV f u=a at*;generalize dV f v=b at*;unfold dV;grind
 have hp:0<dV u u:=Jl fun⟨p,h1,h2⟩=>by unfold dV at hu;rw[p,h1,h2]at hu;omega
 have:=Int.mul_pos j hp;exact wj (by omega:0<=dV f u) (by omega)
def IW(u:A3 ah)(v:A3 Int)(k:Nat):Prop:=IV u v.e0 v.e1 v.e2 k
theorem oZ{u v:A3 ah}{a b:A3 Int}{k:Nat}(hk:k<=50)(hu:IW u a k)(j:IW v b k):Ok (cW 20000 u v) fun z=>IW z (crV a b) (k+k+1):=Hv hk hu j
theorem vF{u v:A3 ah}{a b:A3 Int}{j k:Nat}(m:3<=j+k/\j+k<=50)(hu:IW u a j)(p:IW v b k):Ok (dH 20000 u v) fun z=>IL z (dV a b) (j+k+3):=Kr m hu p
theorem pA{x:ah}{v:Int}{k:Nat}(hk:k<=900)(h:IL x v k):bg 20000 x=some (sgn v):=oG (by omega) (Nat.le_trans h.2 hk) h.1
theorem B6{v:Int}:sgn v=0↔v=0:=by have:=bZ v;omega
theorem BP{v:Int}:0<=sgn v↔0<=v:=by have:=bZ v;omega
theorem HP{v:Int}:sgn v<=0↔v<=0:=by have:=bZ v;omega
theorem H8{u:A3 ah}{a:A3 Int}{k:Nat}(hk:2<=k/\k<=20)(hu:IW u a k):mg 20000 u=some (decide (dV a a=0)):=by
 apply Ok.eq;unfold mg;refine Ok.bd (vF (by omega) (u:=A3.mk u.e0 u.e1 u.e2) hu hu) fun z j=>Ok.bde (pA (by omega) j) (aC.2 ?_)
 by_cases h:dV a a=0
 ·rw[decide_eq_true h,B6.2 h];rfl
 ·rw[decide_eq_false h];have:sgn (dV a a)≠0:=fun e=>h (B6.1 e)
  simpa using this
theorem xB{x y p:A3 ah}{u v f:A3 Int}(j:IW x u 3)(m:IW y v 3)(hp:IW p (crV u v) 7)(hu:0<dV f u)(q:0<dV f v):fp 20000 x y p=some false:=by
 apply Ok.eq;unfold fp;refine Ok.bde (H8 (by omega) hp) (Ok.cd (fun h=>?_) (fun _=>aC.2 rfl));have:=He hu q (dcT h);refine Ok.bd (vF (by omega) j (v:=A3.mk y.e0 y.e1 y.e2) m) fun z C=>Ok.bde (pA (by omega) C) (aC.2 ?_)
 exact decide_eq_false fun h=>by have:=HP.1 h;omega
theorem Hn{x y z:A3 ah}{u v w f:A3 Int}(E:IW x u 3)(N:IW y v 3)(O:IW z w 3)(hu:0<dV f u)(U:0<dV f v)(hw:0<dV f w):mesh_holds 20000 x y z=some false:=by
 apply Ok.eq;unfold mesh_holds;refine Ok.bd (oZ (by omega) (u:=A3.mk x.e0 x.e1 x.e2) (v:=A3.mk y.e0 y.e1 y.e2) E N) fun ab q=>?_
 refine Ok.bd (oZ (by omega) (u:=A3.mk y.e0 y.e1 y.e2) N O) fun j m=>?_
 refine Ok.bd (oZ (by omega) O (v:=A3.mk x.e0 x.e1 x.e2) E) fun ca C=>?_
 have I:=q;have J:=m;have M:=C;obtain⟨a0,a1,a2⟩:=I;obtain⟨b0,b1,b2⟩:=J;obtain⟨c0,c1,c2⟩:=M;refine Ok.bd (b0.add c0 (by omega)) fun r1 q1=>Ok.bd ((a0.mono (by omega)).add q1 (by omega)) fun n0 Y=>?_
 refine Ok.bd (b1.add c1 (by omega)) fun r2 q2=>Ok.bd ((a1.mono (by omega)).add q2 (by omega)) fun n1 a6=>?_
 refine Ok.bd (b2.add c2 (by omega)) fun r3 q3=>Ok.bd ((a2.mono (by omega)).add q3 (by omega)) fun n2 a7=>?_
 have T:IW (A3.mk n0 n1 n2) (nV u v w) 9:=⟨Y,a6,a7⟩;refine Ok.bd (vF (by omega) (u:=A3.mk x.e0 x.e1 x.e2) (v:=A3.mk j.e0 j.e1 j.e2) E m) fun d hd=>Ok.bde (pA (by omega) hd) (Ok.cd (fun _=>aC.2 rfl) (fun hs=>?_))
 have hD:dtV u v w=0:=B6.1 (show sgn (dV u (crV v w))=0 by simpa using hs);refine Ok.bde (H8 (by omega) T) (Ok.cd (fun D=>?_) (fun _=>?_))
 ·have D:dV (nV u v w) (nV u v w)≠0:=by simpa using D
  refine Ok.bd (vF (by omega) (u:=A3.mk ab.e0 ab.e1 ab.e2) q T) fun d1 a8=>Ok.bde (pA (by omega) a8) (Ok.cd (fun h1=>?_) (fun _=>aC.2 rfl))
  refine Ok.bd (vF (by omega) (u:=A3.mk j.e0 j.e1 j.e2) m T) fun d2 b3=>Ok.bde (pA (by omega) b3) (Ok.cd (fun h2=>?_) (fun _=>aC.2 rfl))
  refine Ok.bd (vF (by omega) C T) fun d3 b4=>Ok.bde (pA (by omega) b4) (aC.2 ?_)
  refine decide_eq_false fun h3=>?_
  exact HN hu U hw hD D (BP.1 (dcT h1)) (BP.1 (dcT h2)) (BP.1 h3)
 ·refine Ok.bde (xB (x:=A3.mk x.e0 x.e1 x.e2) (y:=A3.mk y.e0 y.e1 y.e2) (p:=A3.mk ab.e0 ab.e1 ab.e2) E N q hu U) (Ok.cd (fun h=>by cases h) (fun _=>?_));refine Ok.bde (xB (x:=A3.mk y.e0 y.e1 y.e2) (p:=A3.mk j.e0 j.e1 j.e2) N O m U hw) (Ok.cd (fun h=>by cases h) (fun _=>?_));exact Ok.bde (xB (y:=A3.mk x.e0 x.e1 x.e2) O E C hw hu) (aC.2 rfl)
end Go.L

