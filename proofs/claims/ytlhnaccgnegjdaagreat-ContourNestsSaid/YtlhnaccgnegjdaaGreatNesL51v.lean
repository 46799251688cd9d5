import Derived.Test.YtlhnaccgnegjdaaGreatPl6Ness
import Derived.Test.YtlhnaccgnegjdaaGreatNesL01q
import Derived.Test.YtlhnaccgnegjdaaGreatNesL02sB
import Derived.Test.YtlhnaccgnegjdaaGreatNesL01q
import Derived.Test.YtlhnaccgnegjdaaGreatNesLD
import Derived.Test.YtlhnaccgnegjdaaGreatPl6Ness
import Derived.KernelRfl
import Derived.Test.YtlhnaccgnegjdaaGreatNesL02sB
set_option linter.unusedVariables false
namespace Go.L
open Go Go.Eng
def DD(p q r:Rat):Rat:=p*(p*p) / (3*((p-q)*(p-r)))
def G5(a b c:Rat):Rat:=(a+(b+c)) / 3
structure SpQ (a b c x y:Rat):Prop where
 m:x-y=G5 a b c
 p:0<=a->0<=b->0<=c->y=0
 n:a<=0->b<=0->c<=0->x=0
 u1:0<a->b<=0->c<=0->x=DD a b c
 u2:0<b->a<=0->c<=0->x=DD b a c
 u3:0<c->a<=0->b<=0->x=DD c a b
 d1:a<0->0<=b->0<=c->y=DD (-a) (-b) (-c)
 d2:b<0->0<=a->0<=c->y=DD (-b) (-a) (-c)
 d3:c<0->0<=a->0<=b->y=DD (-c) (-a) (-b)
theorem SpQ.neg{a b c x y:Rat}(h:SpQ a b c x y):SpQ (-a) (-b) (-c) y x:=by
 have e:∀z:Rat,- -z=z:=fun z=>by grind
 refine⟨?_,fun h1 h2 j=>h.n (by grind) (by grind) (by grind),fun h1 h2 j=>h.p (by grind) (by grind) (by grind),fun h1 h2 j=>h.d1 (by grind) (by grind) (by grind),fun h1 h2 j=>h.d2 (by grind) (by grind) (by grind),fun h1 h2 j=>h.d3 (by grind) (by grind) (by grind),fun h1 h2 j=>?_,fun h1 h2 j=>?_,fun h1 h2 j=>?_⟩
 ·have:=h.m;unfold G5 at this ⊢;grind
 ·rw[e,e,e];exact h.u1 (by grind) (by grind) (by grind)
 ·rw[e,e,e];exact h.u2 (by grind) (by grind) (by grind)
 ·rw[e,e,e];exact h.u3 (by grind) (by grind) (by grind)
end Go.L


set_option linter.all false
namespace Go.L
open Go Go.Eng
theorem FD{a:Rat}:a.num<=0↔a<=0:=by
 have h:=Rat.num_nonneg (q:=-a);rw[Rat.neg_num]at h;constructor
 ·intro k;have:=h.1 (by omega);grind
 ·intro k;have:=h.2 (by grind);omega
theorem EO{a:Rat}:0<a.num↔0<a:=by
 have h:=FD (a:=a);constructor
 ·intro k;apply Classical.byContradiction;intro hc;have:=h.2 (by grind);omega
 ·intro k;apply Classical.byContradiction;intro hc;have:=h.1 (by omega);grind
theorem Eh{a:Rat}:sgn a.num>=0↔0<=a:=by
 have:=cR a.num;rw[<-Rat.num_nonneg];omega
theorem DB{a:Rat}:sgn a.num<=0↔a<=0:=by
 have:=cR a.num;rw[<-FD];omega
theorem GX{a:Rat}:sgn a.num>0↔0<a:=by
 have:=cR a.num;rw[<-EO];omega
theorem u5{n:Nat}{x:aj}{a:Rat}{k:Nat}(m:20000<=n)(p:k<=250)(hx:Qx x a k):dq n x=some (sgn a.num):=by
 apply Ok.eq;unfold dq;refine Ok.bd (fq m p hx) fun v j=>?_
 have q:=j.nl;exact Ok.bde (kR (by omega) (by omega) j.num) (aw.2 rfl)
end Go.L


set_option linter.all false
namespace Go.L
open Go Go.Eng
theorem Aj{n:Nat}{z:Int}:ee n z=some (xR z):=FJ
theorem DT{n:Nat}(J:4096<n)(g:ak):gh n g=some (mJ g):=by
 apply Ok.eq;unfold gh;refine Ok.cd (fun h=>aw.2 (nY fun d=>?_).symm) (fun h1=>Ok.cd (fun h=>aw.2 (nY fun d=>?_).symm) (fun h2=>Ok.cd (fun h=>aw.2 (nY fun d=>?_).symm) (fun j=>Ok.cd (fun h=>aw.2 (nY fun d=>?_).symm) (fun m=>Ok.cd (fun h=>aw.2 (nY fun d=>?_).symm) (fun q=>Ok.cd (fun h=>aw.2 (nY fun d=>?_).symm) (fun z=>Ok.cd (fun h=>aw.2 (nY fun d=>?_).symm) (fun D=>Ok.bde Aj (Ok.cd (fun h=>aw.2 (nY fun d=>?_).symm) (fun E=>Ok.bde Aj (Ok.cd (fun h=>aw.2 (nY fun d=>?_).symm) (fun I=>?_)))))))))))
 ·have:=d.w;have:=dcT h;omega
 ·have:=d.w;have:=dcT h;omega
 ·have:=d.h;have:=dcT h;omega
 ·have:=d.h;have:=dcT h;omega
 ·have:=d.s;have:=dcT h;omega
 ·have:=d.s;have:=dcT h;omega
 ·have:=d.e;simp[this]at h
 ·rw[d.x]at h;cases h
 ·rw[d.y]at h;cases h
 have h1:=dcF h1;have h2:=dcF h2;have j:=dcF j;have m:=dcF m;have q:=dcF q;have z:=dcF z;have d:Dim g:=⟨by omega,by omega,by omega,by simpa using D,E,I⟩;have ha:=EJ d.w d.h;rw[wrap64_in (n:=g.Width*g.Height) (by omega) (by omega)];unfold mJ;rw[if_pos d];refine Ok.cd (fun h=>aw.2 ?_) (fun h=>?_)
 ·rw[if_neg];simpa using h
 ·have h:(g.Z.length:Int)=g.Width*g.Height:=by simpa using h
  rw[if_pos h];refine Ok.bde (D6 (p:=qu) (c:=(2:Int)) (s:=g.Z) (by omega) (by omega) ?_ ?_) ?_
  ·intro again k C;have d1:decide ((k:Int)<(g.Z.length:Int))=true:=by simpa using C
   have d2:decide (k<g.Z.length)=true:=by simpa using C
   rw[d1,aR,d2,jV,Aj];unfold qu;cases (g.Z.getD k default != -2147483648)<;>cases xR (g.Z.getD k default)<;>rfl
  ·intro again;have d1:decide ((g.Z.length:Int)<(g.Z.length:Int))=false:=by simp
   rw[d1];rfl
  ·cases M:g.Z.any qu with
   |true=>exact aw.2 rfl
   |false=>exact aw.2 rfl
theorem D5{γ σ:Type}{n:Nat}{g:ak}{w h:Nat}(hn:200<n)(O:Gd g w h)(mk:γ->Int->σ)(visit:A3 Int->γ->Option γ)
  {f1:(σ->Option γ)->σ->Option γ} {f2:Int->(σ->Option γ)->σ->Option γ} {f3:List (A3 Int)->(σ->Option γ)->σ->Option γ}
  (h1:∀again c x,f1 again (mk c x)=cdO (decide (x<Jy (g.Height-1))) (bdO (aJ n (f2 x) (mk c 0)) fun o=>again (mk o (Jy (x+1)))) (some c))
  (h2:∀J again c x,f2 J again (mk c x)=cdO (decide (x<Jy (g.Width-1))) (bdO (some (Jy ((Jy (J*g.Width))+x))) fun k=>bdO (some [A3.mk k (Jy (k+1)) (Jy ((Jy (k+g.Width))+1)),A3.mk k (Jy ((Jy (k+g.Width))+1)) (Jy (k+g.Width))]) fun L=>bdO (aJ n (f3 L) (mk c 0)) fun o=>again (mk o (Jy (x+1)))) (some c))
  (h3:∀L again c x,f3 L again (mk c x)=cdO (decide (x<2)) (gdO (inR x L.length) (gdO (inR (gt L x).e0 g.Z.length) (cdO ((gt g.Z (gt L x).e0:Int)!=(-2147483648)) (gdO (inR (gt L x).e1 g.Z.length) (cdO ((gt g.Z (gt L x).e1:Int)!=(-2147483648)) (gdO (inR (gt L x).e2 g.Z.length) (cdO ((gt g.Z (gt L x).e2:Int)!=(-2147483648)) (
    bdO (visit (gt L x) c) fun v=>again (mk v (Jy (x+1)))) (again (mk c (Jy (x+1)))))) (again (mk c (Jy (x+1)))))) (again (mk c (Jy (x+1))))))) (some c))
  (P:List (A3 Int)->γ->Prop) {c0:γ} (T:P [] c0) (hv:∀pre t c,t∈gY g w h->pre.length<2*((w-1)*(h-1))->P pre c->Ok (visit t c) (P (pre++[t]))):Ok (aJ n f1 (mk c0 0)) (P (gY g w h)):=by
 have hw:=O.w1;have hh:=O.h1;have hH:=O.H;have hW:=O.W;have e1:Jy (g.Height-1)=((h-1:Nat):Int):=by rw[hH,wrap64_in (by omega) (by omega)];omega
 have e2:Jy (g.Width-1)=((w-1:Nat):Int):=by rw[hW,wrap64_in (by omega) (by omega)];omega
 have mem:∀j i k,j<h-1->i<w-1->k<2->(jb g.Width j i).getD k default∈nQ g.Width (w-1) (h-1):=by
  intro j i k hj hi I;unfold nQ Ea;refine List.mem_flatMap.2 ⟨j,List.mem_range.2 hj,List.mem_flatMap.2 ⟨i,List.mem_range.2 hi,?_⟩⟩;have U:k<(jb g.Width j i).length:=I;simp only[List.getD,geT U,Option.getD_some];exact List.getElem_mem U
 refine cD (len:=h-1) mk (fun j c=>P ((nQ g.Width (w-1) j).filter (oX g.Z)) c) (by omega) (by omega) T ?_ ?_
 ·rintro again j c hj hP ih;rw[h1 again c j,e1];refine Ok.cd (fun _=>?_) (fun h=>by have:=dcF h;omega);refine Ok.bd (R:=P ((nQ g.Width (w-1) (j+1)).filter (oX g.Z))) ?_ (fun o ho=>ih _ ho);refine cD (len:=w-1) mk (fun i c=>P ((nQ g.Width (w-1) j++(List.range i).flatMap (jb g.Width j)).filter (oX g.Z)) c) (by omega) (by omega) (by simpa using hP) ?_ ?_
  ·rintro q i c hi E a0;rw[h2 j q c i,e2];refine Ok.cd (fun _=>?_) (fun h=>by have:=dcF h;omega);have C:∀k,k<2->inR ((jb g.Width j i).getD k default).e0 g.Z.length=true/\inR ((jb g.Width j i).getD k default).e1 g.Z.length=true/\inR ((jb g.Width j i).getD k default).e2 g.Z.length=true:=fun k I=>by rw[hW];exact CM O.m hw.2 hh.2 hj hi k I
   have hL:(jb g.Width j i).length=2:=rfl;have M:∀k,k<2->(jb g.Width j i).getD k default∈nQ g.Width (w-1) (h-1):=fun k I=>mem j i k hj hi I
   show Ok (bdO (aJ n (f3 (jb g.Width j i)) (mk c 0)) fun o=>q (mk o (Jy ((i:Int)+1)))) _;refine Ok.bd (R:=P ((nQ g.Width (w-1) j++(List.range (i+1)).flatMap (jb g.Width j)).filter (oX g.Z))) ?_ (fun o ho=>a0 _ ho);rw[AI,<-List.append_assoc,List.filter_append];have a1:(w-1)*(j+1)<=(w-1)*(h-1):=Nat.mul_le_mul_left _ (by omega);rw[Nat.mul_add,Nat.mul_one]at a1;have a2:((nQ g.Width (w-1) j++(List.range i).flatMap (jb g.Width j)).filter (oX g.Z)).length+2<=2*((w-1)*(h-1)):=by
    have:=List.length_filter_le (oX g.Z) (nQ g.Width (w-1) j++(List.range i).flatMap (jb g.Width j));rw[List.length_append,uO,Ac,Nat.mul_assoc]at this;omega
   generalize (nQ g.Width (w-1) j++(List.range i).flatMap (jb g.Width j)).filter (oX g.Z)=pre at E a2;generalize jb g.Width j i=L at C hL M;refine cD (len:=2) mk (fun k c=>P (pre++(L.take k).filter (oX g.Z)) c) (by omega) (by omega) (by simpa using E) ?_ ?_
   ·rintro z k c I D Y;obtain⟨r0,r1,r2⟩:=C k I;have hm:=M k I;have N:=Bf (L:=L) (p:=oX g.Z) (k:=k) (by omega);rw[<-jV]at r0 r1 r2 N hm;have no:oX g.Z (gt L (k:Int))=false->Ok (z (mk c (Jy ((k:Int)+1)))) (P (pre++L.filter (oX g.Z))):=fun h=>Y _ (by rw[N,h];simpa using D)
    rw[h3];refine Ok.cd (fun _=>?_) (fun h=>by have:=dcF h;omega);refine Ok.gd (by rw[aR];exact decide_eq_true (by omega)) (Ok.gd r0 ?_);refine Ok.cd (fun T=>?_) (fun h=>no (by unfold oX;rw[h];rfl));refine Ok.gd r1 (Ok.cd (fun h1=>?_) (fun h=>no (by unfold oX;rw[T,h];rfl)));refine Ok.gd r2 (Ok.cd (fun h2=>?_) (fun h=>no (by unfold oX;rw[T,h1,h];rfl)));have hz:oX g.Z (gt L (k:Int))=true:=by unfold oX;rw[T,h1,h2];rfl
    refine Ok.bd (hv _ _ _ (List.mem_filter.2 ⟨hm,hz⟩) (by rw[List.length_append];have:=List.length_filter_le (oX g.Z) (L.take k);rw[List.length_take]at this;omega) D) fun v a3=>Y v ?_
    rw[N,if_pos hz,<-List.append_assoc];exact a3
   ·rintro z c D;rw[h3];refine Ok.cd (fun h=>by simp at h) (fun _=>aw.2 ?_);rw[List.take_of_length_le (by omega)]at D;exact D
  ·rintro q c E;rw[h2 j q c,e2];refine Ok.cd (fun h=>by have:=dcT h;omega) (fun _=>aw.2 ?_);rw[Bo];exact E
 ·rintro again c hP;rw[h1 again c,e1];exact Ok.cd (fun h=>by have:=dcT h;omega) (fun _=>aw.2 hP)
theorem xW{γ σ:Type}{n:Nat}{g:ak}{w h:Nat}(m:200<n)(j:Gd g w h)(mk:γ->Int->σ)(visit:A3 Int->γ->Option γ)
  {f1:(σ->Option γ)->σ->Option γ} {f2:Int->(σ->Option γ)->σ->Option γ} {f3:List (A3 Int)->(σ->Option γ)->σ->Option γ}
  (h1:∀again c x,f1 again (mk c x)=cdO (decide (x<Jy (g.Height-1))) (bdO (aJ n (f2 x) (mk c 0)) fun o=>again (mk o (Jy (x+1)))) (some c))
  (h2:∀J again c x,f2 J again (mk c x)=cdO (decide (x<Jy (g.Width-1))) (bdO (some (Jy ((Jy (J*g.Width))+x))) fun k=>bdO (some [A3.mk k (Jy (k+1)) (Jy ((Jy (k+g.Width))+1)),A3.mk k (Jy ((Jy (k+g.Width))+1)) (Jy (k+g.Width))]) fun L=>bdO (aJ n (f3 L) (mk c 0)) fun o=>again (mk o (Jy (x+1)))) (some c))
  (p:∀L again c x,f3 L again (mk c x)=cdO (decide (x<2)) (gdO (inR x L.length) (gdO (inR (gt L x).e0 g.Z.length) (cdO ((gt g.Z (gt L x).e0:Int)!=(-2147483648)) (gdO (inR (gt L x).e1 g.Z.length) (cdO ((gt g.Z (gt L x).e1:Int)!=(-2147483648)) (gdO (inR (gt L x).e2 g.Z.length) (cdO ((gt g.Z (gt L x).e2:Int)!=(-2147483648)) (
    bdO (visit (gt L x) c) fun v=>again (mk v (Jy (x+1)))) (again (mk c (Jy (x+1)))))) (again (mk c (Jy (x+1)))))) (again (mk c (Jy (x+1))))))) (some c))
  (P:List (A3 Int)->γ->Prop) {c0:γ} (q:P [] c0) (z:∀pre t c,t∈gY g w h->pre.length<=8000->P pre c->Ok (visit t c) (P (pre++[t]))):Ok (aJ n f1 (mk c0 0)) (P (gY g w h)):=
 D5 m j mk visit h1 h2 p P q fun pre t c C E D=>z pre t c C (by
  have:=Nat.mul_le_mul (show w-1<=63 by have:=j.w1;omega) (show h-1<=63 by have:=j.h1;omega);omega) D
theorem Hk{α β:Type}{a:Bool}{x:Option α}{f:α->Option β}:bdO (gdO a x) f=gdO a (bdO x f):=by cases a<;>rfl
theorem Dl{n:Nat}(j:200<n){g:ak}{w h:Nat}(m:Gd g w h):dC n g=some (gY g w h):=by
 apply Ok.eq;unfold dC;refine Ok.bd (R:=fun o=>o=gY g w h) ?_ (fun o p=>aw.2 p);refine xW (γ:=List (A3 Int)) j m (fun c x=>(c,x)) (fun t c=>gdO (decide ((c.length+1)*24<=140737488355328)) (gdO (decide (c.length+1<=4611686018427387904)) (some (c++[t]))))
  (fun _ _ _=>rfl) (fun _ _ _ _=>rfl) ?_ (fun pre c=>c=pre) rfl ?_
 ·intro L again c x;rw[Hk,Hk];rfl
 ·rintro pre t c q z rfl;exact Ok.gd (decide_eq_true (by omega)) (Ok.gd (decide_eq_true (by omega)) (aw.2 rfl))
end Go.L


set_option linter.all false
namespace Go.L
open Go Go.Eng
def EY{α:Type}(x:α):List α->List (List α)
 |[]=>[[x]]
 |y::l=>(x::y::l)::(EY x l).map (y::·)
def perms{α:Type}:List α->List (List α)
 |[]=>[[]]
 |x::l=>(perms l).flatMap (EY x)
theorem A5{α:Type}{x:α}{b:List α}:∀a:List α,a++x::b∈EY x (a++b)
 |[]=>by cases b<;>simp[EY]
 |y::a=>by
  rw[List.cons_append,List.cons_append,EY];exact List.mem_cons_of_mem _ (List.mem_map.2 ⟨_,A5 a,rfl⟩)
theorem yV{α:Type}:∀(l p:List α),p.Perm l->p∈perms l
 |[],p,h=>by rw[List.perm_nil.1 h];simp[perms]
 |x::l,p,h=>by
  obtain⟨a,b,rfl⟩:=List.append_of_mem (h.mem_iff.2 (by simp:x∈x::l));have h2:(a++b).Perm l:=(List.perm_cons x).1 ((List.perm_middle.symm).trans h);exact List.mem_flatMap.2 ⟨_,yV l _ h2,A5 a⟩
def rK(n:Nat)(g:ak)(level:Int)(v1:List (A2 Int×A2 Int)×List (A2 Int×Bool))(sl:Int)(I:List (A2 Int)):Option (List ae):=
  bdO (aJ (α:=List (A2 Int×Bool)×List ae×Int) (β:=List (A2 Int×Bool)×List ae) n (fun D (j,z,p)=>(
   cdO (decide (p<sl)) (
    gdO (inR p I.length) (
    cdO (!(getM false v1.2 (gt I p))) (
     bdO (dZ n (gt I p) false j g.X0 g.Y0 g.Step g.Width g.Height g.Z level v1.1 z) fun O=>(
     D (O.1,O.2,Jy (p+1))
     )
    ) (
     D (j,z,Jy (p+1))
    )
    )
   ) (
    some ((j,z))
   )
  )) (([]:List (A2 Int×Bool)),[],0)) fun Y=>(
   match Y with
   |(M,N)=>(
    bdO (aJ (α:=List (A2 Int×Bool)×List ae×Int) (β:=List ae) n (fun E (m,C,q)=>(
     cdO (decide (q<(I.length:Int))) (
      gdO (inR q I.length) (
      cdO (!(getM false m (gt I q))) (
       bdO (dZ n (gt I q) true m g.X0 g.Y0 g.Step g.Width g.Height g.Z level v1.1 C) fun T=>(
       E (T.1,T.2,Jy (q+1))
       )
      ) (
       E (m,C,Jy (q+1))
      )
      )
     ) (
      some (C)
     )
    )) (M,N,0)) fun J=>(
     bdO (aK n J) fun U=>(
     gdO (decide (U.length=J.length)) (
     some (U)
     )
     )
    )
   ))
def zz(j:List (A2 Int))(m:A2 Int×A2 Int):Option (List (A2 Int)):=
 gdO (decide ((j.length+1)*16<=140737488355328)) (
 gdO (decide (j.length+1<=4611686018427387904)) (
 some (j++[m.1])
 )
 )
theorem GB(n:Nat)(g:ak)(level:Int):gz n g level=bdO (aY n g g.X0 g.Y0 g.Step g.Width g.Height g.Z level ([]:List (A2 Int×A2 Int)) ([]:List (A2 Int×Bool))) fun v1=>
  Bn v1.1 zz [] fun j=>bdO (aD n j) fun m=>gdO (decide (m.length=j.length)) (rK n g level v1 (j.length:Int) m):=rfl
theorem x6:∀(l:List (A2 Int×A2 Int)) (a:List (A2 Int)),a.length+l.length<=100000->oY zz a l=some (a++l.map (·.1))
 |[],a,_=>by simp[oY]
 |e::l,a,h=>by
  rw[List.length_cons]at h;have e1:zz a e=some (a++[e.1]):=by
   unfold zz;rw[decide_eq_true (show(a.length+1)*16<=140737488355328 by omega),decide_eq_true (show a.length+1<=4611686018427387904 by omega)];rfl
  rw[oY,e1];show oY zz (a++[e.1]) l=_;rw[x6 l _ (by rw[List.length_append,List.length_cons,List.length_nil];omega),List.append_assoc];rfl
theorem AX{n:Nat}{g:ak}{level:Int}{v1:List (A2 Int×A2 Int)×List (A2 Int×Bool)}{S:List (A2 Int)}{r:List ae}
  (h1:aY n g g.X0 g.Y0 g.Step g.Width g.Height g.Z level ([]:List (A2 Int×A2 Int)) ([]:List (A2 Int×Bool))=some v1) (z:v1.1.length<=100000)
  (h2:∀p:List (A2 Int),p.Perm (v1.1.map (·.1))->aD n p=some S) (m:S.length=v1.1.length) (q:rK n g level v1 (v1.1.length:Int) S=some r):gz n g level=some r:=by
 rw[GB,h1];show Bn v1.1 zz [] _=_;refine FW fun p hp=>?_
 have j:=hp.length_eq;rw[x6 p [] (by simp;omega),List.nil_append];show bdO (aD n (p.map (·.1))) _=_;rw[h2 _ (hp.map _)];show gdO (decide (S.length=(p.map (·.1)).length)) (rK n g level v1 ((p.map (·.1)).length:Int) S)=_;rw[List.length_map,j,m,decide_eq_true rfl,q];rfl
def exG:ak:=ak.mk 0 0 2 3 3 [(0:Int),(0:Int),(0:Int),(0:Int),(4:Int),(0:Int),(0:Int),(0:Int),(0:Int)]
def exV:List (A2 Int×A2 Int)×List (A2 Int×Bool):=(aY 20000 exG 0 0 2 3 3 exG.Z 1 ([]:List (A2 Int×A2 Int)) ([]:List (A2 Int×Bool))).getD default
def exK:List (A2 Int):=[⟨0,4⟩,⟨1,4⟩,⟨3,4⟩,⟨4,5⟩,⟨4,7⟩,⟨4,8⟩]
def exL:List ae:=(rK 20000 exG 1 exV 6 exK).getD []
theorem Iq:aY 20000 exG exG.X0 exG.Y0 exG.Step exG.Width exG.Height exG.Z 1 ([]:List (A2 Int×A2 Int)) ([]:List (A2 Int×Bool))=some exV:=by kernel_rfl
theorem Is:((perms (exV.1.map (·.1))).all fun p=>aD 20000 p==some exK)=true:=by kernel_rfl
theorem IG:rK 20000 exG 1 exV (exV.1.length:Int) exK=some exL:=by kernel_rfl
theorem E6:gz 20000 exG 1=some exL:=
 AX Iq (lbT (by kernel_rfl)) (fun p hp=>eq_of_beq (List.all_eq_true.1 Is p (yV _ _ hp))) (by kernel_rfl) IG
theorem D3:kx 20000=some true:=rfl
end Go.L


set_option linter.all false
namespace Go.L
open Go Go.Eng
end Go.L

