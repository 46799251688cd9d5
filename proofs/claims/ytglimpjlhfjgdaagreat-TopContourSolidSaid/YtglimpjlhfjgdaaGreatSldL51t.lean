import Derived.Test.YtglimpjlhfjgdaaGreatSldL02oB
import Derived.Test.YtglimpjlhfjgdaaGreatPl6Slds
import Derived.Test.YtglimpjlhfjgdaaGreatSldL01p
import Derived.Test.YtglimpjlhfjgdaaGreatSldL01p
import Derived.Test.YtglimpjlhfjgdaaGreatSldLD
import Derived.Test.YtglimpjlhfjgdaaGreatPl6Slds
import Derived.KernelRfl
import Derived.Test.YtglimpjlhfjgdaaGreatSldL02oB
set_option linter.all false
namespace Go.L
open Go Go.Eng
theorem HM{n:Nat}{x:an}{a:Rat}{k:Nat}(p:20000<=n)(hk:k<=250)(q:Qx x a k):Ok (jV n x) fun z=>Qx z (-a) k:=by
 unfold jV;refine Ok.bd (jQ p hk q) fun v j=>?_
 have C:=j.nl;refine Ok.bd (rW (by omega) (by omega) j.num) fun z m=>aC.2 ?_
 exact⟨(show(-a).num=-a.num from rfl)▸m,(show(-a).den=a.den from rfl)▸j.den,pq j.num m j.nl,j.dl⟩
theorem sU{n:Nat}{x y:an}{a b:Rat}{j k:Nat}(m:20000<=n)(hk:j+k+1<=250)(p:Qx x a j)(q:Qx y b k):Ok (dz n x y) fun z=>Qx z (a-b) (j+k+1):=by
 unfold dz;refine Ok.bd (HM m (by omega) q) fun v C=>Ok.bd (zj m hk p C) fun z D=>aC.2 ?_
 rw[Rat.sub_eq_add_neg];exact D
end Go.L


set_option linter.unusedVariables false
namespace Go.L
open Go Go.Eng
def DW(p q r:Rat):Rat:=p*(p*p) / (3*((p-q)*(p-r)))
def Ib(a b c:Rat):Rat:=(a+(b+c)) / 3
structure SpQ (a b c x y:Rat):Prop where
 m:x-y=Ib a b c
 p:0<=a->0<=b->0<=c->y=0
 n:a<=0->b<=0->c<=0->x=0
 u1:0<a->b<=0->c<=0->x=DW a b c
 u2:0<b->a<=0->c<=0->x=DW b a c
 u3:0<c->a<=0->b<=0->x=DW c a b
 d1:a<0->0<=b->0<=c->y=DW (-a) (-b) (-c)
 d2:b<0->0<=a->0<=c->y=DW (-b) (-a) (-c)
 d3:c<0->0<=a->0<=b->y=DW (-c) (-a) (-b)
theorem SpQ.neg{a b c x y:Rat}(h:SpQ a b c x y):SpQ (-a) (-b) (-c) y x:=by
 have e:∀z:Rat,- -z=z:=fun z=>by grind
 refine⟨?_,fun h1 h2 j=>h.n (by grind) (by grind) (by grind),fun h1 h2 j=>h.p (by grind) (by grind) (by grind),fun h1 h2 j=>h.d1 (by grind) (by grind) (by grind),fun h1 h2 j=>h.d2 (by grind) (by grind) (by grind),fun h1 h2 j=>h.d3 (by grind) (by grind) (by grind),fun h1 h2 j=>?_,fun h1 h2 j=>?_,fun h1 h2 j=>?_⟩
 ·have:=h.m;unfold Ib at this ⊢;grind
 ·rw[e,e,e];exact h.u1 (by grind) (by grind) (by grind)
 ·rw[e,e,e];exact h.u2 (by grind) (by grind) (by grind)
 ·rw[e,e,e];exact h.u3 (by grind) (by grind) (by grind)
end Go.L


set_option linter.all false
namespace Go.L
open Go Go.Eng
theorem E3{a:Rat}:a.num<=0↔a<=0:=by
 have h:=Rat.num_nonneg (q:=-a);rw[Rat.neg_num]at h;constructor
 ·intro k;have:=h.1 (by omega);grind
 ·intro k;have:=h.2 (by grind);omega
theorem F8{a:Rat}:0<a.num↔0<a:=by
 have h:=E3 (a:=a);constructor
 ·intro k;apply Classical.byContradiction;intro hc;have:=h.2 (by grind);omega
 ·intro k;apply Classical.byContradiction;intro hc;have:=h.1 (by omega);grind
theorem H7{a:Rat}:sgn a.num>=0↔0<=a:=by
 have:=bZ a.num;rw[<-Rat.num_nonneg];omega
theorem Cz{a:Rat}:sgn a.num<=0↔a<=0:=by
 have:=bZ a.num;rw[<-E3];omega
theorem Kf{a:Rat}:sgn a.num>0↔0<a:=by
 have:=bZ a.num;rw[<-F8];omega
theorem td{n:Nat}{x:an}{a:Rat}{k:Nat}(m:20000<=n)(hk:k<=250)(p:Qx x a k):cK n x=some (sgn a.num):=by
 apply Ok.eq;unfold cK;refine Ok.bd (jQ m hk p) fun v j=>?_
 have q:=j.nl;exact Ok.bde (oG (by omega) (by omega) j.num) (aC.2 rfl)
end Go.L


set_option linter.all false
namespace Go.L
open Go Go.Eng
theorem Ei{γ σ:Type}{n:Nat}{g:aj}{w h:Nat}(hn:200<n)(N:Gd g w h)(mk:γ->Int->σ)(visit:A3 Int->γ->Option γ)
  {f1:(σ->Option γ)->σ->Option γ} {f2:Int->(σ->Option γ)->σ->Option γ} {f3:List (A3 Int)->(σ->Option γ)->σ->Option γ}
  (h1:∀again c x,f1 again (mk c x)=cdO (decide (x<MR (g.Height-1))) (bdO (aQ n (f2 x) (mk c 0)) fun o=>again (mk o (MR (x+1)))) (some c))
  (h2:∀J again c x,f2 J again (mk c x)=cdO (decide (x<MR (g.Width-1))) (bdO (some (MR ((MR (J*g.Width))+x))) fun k=>bdO (some [A3.mk k (MR (k+1)) (MR ((MR (k+g.Width))+1)),A3.mk k (MR ((MR (k+g.Width))+1)) (MR (k+g.Width))]) fun L=>bdO (aQ n (f3 L) (mk c 0)) fun o=>again (mk o (MR (x+1)))) (some c))
  (h3:∀L again c x,f3 L again (mk c x)=cdO (decide (x<2)) (gdO (inR x L.length) (gdO (inR (gt L x).e0 g.Z.length) (cdO ((gt g.Z (gt L x).e0:Int)!=(-2147483648)) (gdO (inR (gt L x).e1 g.Z.length) (cdO ((gt g.Z (gt L x).e1:Int)!=(-2147483648)) (gdO (inR (gt L x).e2 g.Z.length) (cdO ((gt g.Z (gt L x).e2:Int)!=(-2147483648)) (
    bdO (visit (gt L x) c) fun v=>again (mk v (MR (x+1)))) (again (mk c (MR (x+1)))))) (again (mk c (MR (x+1)))))) (again (mk c (MR (x+1))))))) (some c))
  (P:List (A3 Int)->γ->Prop) {c0:γ} (O:P [] c0) (hv:∀pre t c,t∈jd g w h->pre.length<2*((w-1)*(h-1))->P pre c->Ok (visit t c) (P (pre++[t]))):Ok (aQ n f1 (mk c0 0)) (P (jd g w h)):=by
 have hw:=N.w1;have hh:=N.h1;have hH:=N.H;have hW:=N.W;have e1:MR (g.Height-1)=((h-1:Nat):Int):=by rw[hH,wrap64_in (by omega) (by omega)];omega
 have e2:MR (g.Width-1)=((w-1:Nat):Int):=by rw[hW,wrap64_in (by omega) (by omega)];omega
 have mem:∀j i k,j<h-1->i<w-1->k<2->(fh g.Width j i).getD k default∈cJ g.Width (w-1) (h-1):=by
  intro j i k Y hi hk;unfold cJ A0;refine List.mem_flatMap.2 ⟨j,List.mem_range.2 Y,List.mem_flatMap.2 ⟨i,List.mem_range.2 hi,?_⟩⟩;have T:k<(fh g.Width j i).length:=hk;simp only[List.getD,geT T,Option.getD_some];exact List.getElem_mem T
 refine gO (len:=h-1) mk (fun j c=>P ((cJ g.Width (w-1) j).filter (gQ g.Z)) c) (by omega) (by omega) O ?_ ?_
 ·rintro again j c Y hP ih;rw[h1 again c j,e1];refine Ok.cd (fun _=>?_) (fun h=>by have:=dcF h;omega);refine Ok.bd (R:=P ((cJ g.Width (w-1) (j+1)).filter (gQ g.Z))) ?_ (fun o ho=>ih _ ho);refine gO (len:=w-1) mk (fun i c=>P ((cJ g.Width (w-1) j++(List.range i).flatMap (fh g.Width j)).filter (gQ g.Z)) c) (by omega) (by omega) (by simpa using hP) ?_ ?_
  ·rintro q i c hi E a1;rw[h2 j q c i,e2];refine Ok.cd (fun _=>?_) (fun h=>by have:=dcF h;omega);have C:∀k,k<2->inR ((fh g.Width j i).getD k default).e0 g.Z.length=true/\inR ((fh g.Width j i).getD k default).e1 g.Z.length=true/\inR ((fh g.Width j i).getD k default).e2 g.Z.length=true:=fun k hk=>by rw[hW];exact zW N.m hw.2 hh.2 Y hi k hk
   have hL:(fh g.Width j i).length=2:=rfl;have I:∀k,k<2->(fh g.Width j i).getD k default∈cJ g.Width (w-1) (h-1):=fun k hk=>mem j i k Y hi hk
   show Ok (bdO (aQ n (f3 (fh g.Width j i)) (mk c 0)) fun o=>q (mk o (MR ((i:Int)+1)))) _;refine Ok.bd (R:=P ((cJ g.Width (w-1) j++(List.range (i+1)).flatMap (fh g.Width j)).filter (gQ g.Z))) ?_ (fun o ho=>a1 _ ho);rw[wm,<-List.append_assoc,List.filter_append];have a6:(w-1)*(j+1)<=(w-1)*(h-1):=Nat.mul_le_mul_left _ (by omega);rw[Nat.mul_add,Nat.mul_one]at a6;have a7:((cJ g.Width (w-1) j++(List.range i).flatMap (fh g.Width j)).filter (gQ g.Z)).length+2<=2*((w-1)*(h-1)):=by
    have:=List.length_filter_le (gQ g.Z) (cJ g.Width (w-1) j++(List.range i).flatMap (fh g.Width j));rw[List.length_append,sS,vR,Nat.mul_assoc]at this;omega
   generalize (cJ g.Width (w-1) j++(List.range i).flatMap (fh g.Width j)).filter (gQ g.Z)=pre at E a7;generalize fh g.Width j i=L at C hL I;refine gO (len:=2) mk (fun k c=>P (pre++(L.take k).filter (gQ g.Z)) c) (by omega) (by omega) (by simpa using E) ?_ ?_
   ·rintro z k c hk D U;obtain⟨r0,r1,r2⟩:=C k hk;have hm:=I k hk;have M:=vy (L:=L) (p:=gQ g.Z) (k:=k) (by omega);rw[<-cZ]at r0 r1 r2 M hm;have no:gQ g.Z (gt L (k:Int))=false->Ok (z (mk c (MR ((k:Int)+1)))) (P (pre++L.filter (gQ g.Z))):=fun h=>U _ (by rw[M,h];simpa using D)
    rw[h3];refine Ok.cd (fun _=>?_) (fun h=>by have:=dcF h;omega);refine Ok.gd (by rw[bf];exact decide_eq_true (by omega)) (Ok.gd r0 ?_);refine Ok.cd (fun O=>?_) (fun h=>no (by unfold gQ;rw[h];rfl));refine Ok.gd r1 (Ok.cd (fun h1=>?_) (fun h=>no (by unfold gQ;rw[O,h];rfl)));refine Ok.gd r2 (Ok.cd (fun h2=>?_) (fun h=>no (by unfold gQ;rw[O,h1,h];rfl)));have hz:gQ g.Z (gt L (k:Int))=true:=by unfold gQ;rw[O,h1,h2];rfl
    refine Ok.bd (hv _ _ _ (List.mem_filter.2 ⟨hm,hz⟩) (by rw[List.length_append];have:=List.length_filter_le (gQ g.Z) (L.take k);rw[List.length_take]at this;omega) D) fun v a8=>U v ?_
    rw[M,if_pos hz,<-List.append_assoc];exact a8
   ·rintro z c D;rw[h3];refine Ok.cd (fun h=>by simp at h) (fun _=>aC.2 ?_);rw[List.take_of_length_le (by omega)]at D;exact D
  ·rintro q c E;rw[h2 j q c,e2];refine Ok.cd (fun h=>by have:=dcT h;omega) (fun _=>aC.2 ?_);rw[we];exact E
 ·rintro again c hP;rw[h1 again c,e1];exact Ok.cd (fun h=>by have:=dcT h;omega) (fun _=>aC.2 hP)
theorem Bg{γ σ:Type}{n:Nat}{g:aj}{w h:Nat}(m:200<n)(j:Gd g w h)(mk:γ->Int->σ)(visit:A3 Int->γ->Option γ)
  {f1:(σ->Option γ)->σ->Option γ} {f2:Int->(σ->Option γ)->σ->Option γ} {f3:List (A3 Int)->(σ->Option γ)->σ->Option γ}
  (h1:∀again c x,f1 again (mk c x)=cdO (decide (x<MR (g.Height-1))) (bdO (aQ n (f2 x) (mk c 0)) fun o=>again (mk o (MR (x+1)))) (some c))
  (h2:∀J again c x,f2 J again (mk c x)=cdO (decide (x<MR (g.Width-1))) (bdO (some (MR ((MR (J*g.Width))+x))) fun k=>bdO (some [A3.mk k (MR (k+1)) (MR ((MR (k+g.Width))+1)),A3.mk k (MR ((MR (k+g.Width))+1)) (MR (k+g.Width))]) fun L=>bdO (aQ n (f3 L) (mk c 0)) fun o=>again (mk o (MR (x+1)))) (some c))
  (p:∀L again c x,f3 L again (mk c x)=cdO (decide (x<2)) (gdO (inR x L.length) (gdO (inR (gt L x).e0 g.Z.length) (cdO ((gt g.Z (gt L x).e0:Int)!=(-2147483648)) (gdO (inR (gt L x).e1 g.Z.length) (cdO ((gt g.Z (gt L x).e1:Int)!=(-2147483648)) (gdO (inR (gt L x).e2 g.Z.length) (cdO ((gt g.Z (gt L x).e2:Int)!=(-2147483648)) (
    bdO (visit (gt L x) c) fun v=>again (mk v (MR (x+1)))) (again (mk c (MR (x+1)))))) (again (mk c (MR (x+1)))))) (again (mk c (MR (x+1))))))) (some c))
  (P:List (A3 Int)->γ->Prop) {c0:γ} (q:P [] c0) (z:∀pre t c,t∈jd g w h->pre.length<=8000->P pre c->Ok (visit t c) (P (pre++[t]))):Ok (aQ n f1 (mk c0 0)) (P (jd g w h)):=
 Ei m j mk visit h1 h2 p P q fun pre t c C E D=>z pre t c C (by
  have:=Nat.mul_le_mul (show w-1<=63 by have:=j.w1;omega) (show h-1<=63 by have:=j.h1;omega);omega) D
end Go.L


set_option linter.all false
namespace Go.L
open Go Go.Eng
def uo(n:Nat)(g:aj)(level:Int)(v1:List (A2 Int×A2 Int)×List (A2 Int×Bool))(sl:Int)(v21:List (A2 Int)):Option (List ak):=
  bdO (aQ (α:=List (A2 Int×Bool)×List ak×Int) (β:=List (A2 Int×Bool)×List ak) n (fun D (j,z,p)=>(
   cdO (decide (p<sl)) (
    gdO (inR p v21.length) (
    cdO (!(getM false v1.2 (gt v21 p))) (
     bdO (dt n (gt v21 p) false j g.X0 g.Y0 g.Step g.Width g.Height g.Z level v1.1 z) fun N=>(
     D (N.1,N.2,MR (p+1))
     )
    ) (
     D (j,z,MR (p+1))
    )
    )
   ) (
    some ((j,z))
   )
  )) (([]:List (A2 Int×Bool)),[],0)) fun U=>(
   match U with
   |(J,M)=>(
    bdO (aQ (α:=List (A2 Int×Bool)×List ak×Int) (β:=List ak) n (fun E (m,C,q)=>(
     cdO (decide (q<(v21.length:Int))) (
      gdO (inR q v21.length) (
      cdO (!(getM false m (gt v21 q))) (
       bdO (dt n (gt v21 q) true m g.X0 g.Y0 g.Step g.Width g.Height g.Z level v1.1 C) fun O=>(
       E (O.1,O.2,MR (q+1))
       )
      ) (
       E (m,C,MR (q+1))
      )
      )
     ) (
      some (C)
     )
    )) (J,M,0)) fun I=>(
     bdO (aJ n I) fun T=>(
     gdO (decide (T.length=I.length)) (
     some (T)
     )
     )
    )
   ))
def yp(j:List (A2 Int))(m:A2 Int×A2 Int):Option (List (A2 Int)):=
 gdO (decide ((j.length+1)*16<=140737488355328)) (
 gdO (decide (j.length+1<=4611686018427387904)) (
 some (j++[m.1])
 )
 )
theorem Hh(n:Nat)(g:aj)(level:Int):iH n g level=bdO (bc n g g.X0 g.Y0 g.Step g.Width g.Height g.Z level ([]:List (A2 Int×A2 Int)) ([]:List (A2 Int×Bool))) fun v1=>
  zf v1.1 yp [] fun j=>bdO (aH n j) fun v21=>gdO (decide (v21.length=j.length)) (uo n g level v1 (j.length:Int) v21):=rfl
theorem xA:∀(l:List (A2 Int×A2 Int)) (a:List (A2 Int)),a.length+l.length<=100000->kY yp a l=some (a++l.map (·.1))
 |[],a,_=>by simp[kY]
 |e::l,a,h=>by
  rw[List.length_cons]at h;have e1:yp a e=some (a++[e.1]):=by
   unfold yp;rw[decide_eq_true (show(a.length+1)*16<=140737488355328 by omega),decide_eq_true (show a.length+1<=4611686018427387904 by omega)];rfl
  rw[kY,e1];show kY yp (a++[e.1]) l=_;rw[xA l _ (by rw[List.length_append,List.length_cons,List.length_nil];omega),List.append_assoc];rfl
theorem EY{n:Nat}{g:aj}{level:Int}{v1:List (A2 Int×A2 Int)×List (A2 Int×Bool)}{S:List (A2 Int)}{r:List ak}
  (h1:bc n g g.X0 g.Y0 g.Step g.Width g.Height g.Z level ([]:List (A2 Int×A2 Int)) ([]:List (A2 Int×Bool))=some v1) (z:v1.1.length<=100000)
  (h2:∀p:List (A2 Int),p.Perm (v1.1.map (·.1))->aH n p=some S) (m:S.length=v1.1.length) (q:uo n g level v1 (v1.1.length:Int) S=some r):iH n g level=some r:=by
 rw[Hh,h1];show zf v1.1 yp [] _=_;refine DA fun p hp=>?_
 have j:=hp.length_eq;rw[xA p [] (by simp;omega),List.nil_append];show bdO (aH n (p.map (·.1))) _=_;rw[h2 _ (hp.map _)];show gdO (decide (S.length=(p.map (·.1)).length)) (uo n g level v1 ((p.map (·.1)).length:Int) S)=_;rw[List.length_map,j,m,decide_eq_true rfl,q];rfl
end Go.L


set_option linter.all false
namespace Go.L
open Go Go.Eng
end Go.L


set_option linter.all false
namespace Go.L
open Go Go.Eng
def vE(t:A3 Int)(a:Int):Bool:=[t.e0,t.e1,t.e2].any fun z=>a==z
def pH(T:List (A3 Int))(a b:Int):Bool:=decide (a<b)&&T.any fun t=>vE t a&&vE t b
theorem tF{t:A3 Int}{a:Int}:vE t a=true↔a=t.e0\/a=t.e1\/a=t.e2:=by unfold vE;simp
theorem CF{g:aj}{w h:Nat}(j:Gd g w h){a b:Int}(e:pH (jd g w h) a b=true):0<=a/\a<b/\b<g.Z.length:=by
 unfold pH at e;rw[Bool.and_eq_true,List.any_eq_true]at e;obtain⟨h1,t,m,h2⟩:=e;have h1:=dcT h1;rw[Bool.and_eq_true,tF,tF]at h2;obtain⟨i0,i1,i2⟩:=xi j (List.mem_filter.1 m).1;have i0:=iK.1 i0;have i1:=iK.1 i1;have i2:=iK.1 i2;omega
theorem JA{n:Nat}(j:10<n)(t:A3 Int)(p:Bool)(a b:Int):dX n t p a b=some (p||(vE t a&&vE t b)):=by
 unfold dX;have e:∀v,bs n [t.e0,t.e1,t.e2] v=some (vE t v):=fun v=>Ic (by simp;omega) (by simp)
 rw[e,e];cases p<;>cases vE t a<;>rfl
theorem ET{n:Nat}(z:200<n){g:aj}{w h:Nat}(m:Gd g w h)(a b:Int):iW n g a b=some (pH (jd g w h) a b):=by
 apply Ok.eq;have no:¬(0<=a/\a<b/\b<g.Z.length)->false=pH (jd g w h) a b:=fun C=>by
  cases e:pH (jd g w h) a b with
  |false=>rfl
  |true=>exact absurd (CF m e) C
 unfold iW;refine Ok.cd (fun h1=>aC.2 (no fun q=>by have:=dcT h1;omega)) (fun h1=>Ok.cd (fun h2=>aC.2 (no fun q=>by have:=dcT h2;omega)) (fun h2=>Ok.cd (fun p=>aC.2 (no fun q=>by have:=dcT p;omega)) (fun p=>?_)));have h2:=dcF h2;refine Ok.bd (R:=fun o=>o=pH (jd g w h) a b) ?_ (fun o j=>aC.2 j);unfold bY;refine Ok.bd (R:=fun o=>o=pH (jd g w h) a b) ?_ (fun o j=>aC.2 j);have e:pH (jd g w h) a b=(jd g w h).any fun t=>vE t a&&vE t b:=by unfold pH;rw[decide_eq_true (by omega),Bool.true_and]
 rw[e];refine Bg (γ:=Bool) z m (fun c x=>(c,x)) (fun t c=>dX n t c a b) (fun _ _ _=>rfl) (fun _ _ _ _=>rfl) (fun _ _ _ _=>rfl) (fun pre c=>c=pre.any fun t=>vE t a&&vE t b) rfl ?_;rintro pre t c D E rfl;rw[JA (by omega)];refine aC.2 ?_;rw[List.any_append];simp
end Go.L


set_option linter.all false
namespace Go.L
open Go Go.Eng
theorem HH{n:Nat}{x y:an}{a b:Rat}{j k:Nat}(z:20000<=n)(J:j<=30)(hk:k<=30)(D:Qx x a j)(E:Qx y b k):Ok (ee n x y) fun s=>s>0↔b<a:=by
 unfold ee;refine Ok.bd (jQ z (by omega) D) fun v m=>Ok.bd (jQ z (by omega) E) fun w hw=>?_
 have I:=m.nl;have n2:=hw.nl;have d1:=m.dl;have d2:=hw.dl;refine Ok.bd (qx (by omega) m.num hw.den (by omega) (by omega)) fun p hp=>Ok.bd (qx (by omega) hw.num m.den (by omega) (by omega)) fun q C=>?_
 have M:=gU m.num hw.den hp I d2;have N:=gU hw.num m.den C n2 d1;refine Ok.bde (xv (by omega) hp C (by omega) (by omega)) (aC.2 ?_);have:=bZ (a.num*(b.den:Int)-b.num*(a.den:Int));rw[Rat.lt_iff];omega
def pxG(g:aj)(k:Int):Int:=g.X0+k.tmod g.Width*g.Step
def pyG(g:aj)(k:Int):Int:=g.Y0+k.tdiv g.Width*g.Step
theorem JT{a b:Nat}:((a:Int)).tdiv (b:Int)=((a / b:Nat):Int):=rfl
theorem AO{a b:Nat}:((a:Int)).tmod (b:Int)=((a%b:Nat):Int):=by rw[Int.tmod_eq_emod_of_nonneg (by omega)];rfl
theorem s8{z:Int}:rY z=false↔ -1048576<=z/\z<=1048576:=by
 unfold rY;simp
theorem HX{g:aj}{w h:Nat}(j:Gd g w h){k:Int}(C:0<=k)(h1:k<g.Z.length):
  (MR (g.X0+(MR ((k.tmod g.Width)*g.Step)))=pxG g k/\ -8000000<=pxG g k/\pxG g k<=8000000)/\(MR (g.Y0+(MR ((MR (k.tdiv g.Width))*g.Step)))=pyG g k/\ -8000000<=pyG g k/\pyG g k<=8000000):=by
 obtain⟨m,rfl⟩:∃m:Nat,k=(m:Int):=⟨k.toNat,by omega⟩;have hw:=j.w1;have D:=j.h1;have hs:=j.dim.s;have E:=(s8.1 j.dim.x);have I:=(s8.1 j.dim.y);have hm:m<w*h:=by rw[<-j.m];omega
 unfold pxG pyG;rw[j.W,AO,JT];have z:m%w<w:=Nat.mod_lt _ (by omega);have a2:m / w<h:=Nat.div_lt_of_lt_mul hm;generalize m%w=p at z ⊢;generalize m / w=q at a2 ⊢;have J:=nQ (a:=(p:Int)) (b:=g.Step) (A:=63) (B:=65536) (by omega) (by omega) (by omega) (by omega);have b2:=nQ (a:=(q:Int)) (b:=g.Step) (A:=63) (B:=65536) (by omega) (by omega) (by omega) (by omega);rw[wrap64_in (n:=(p:Int)*g.Step) (by omega) (by omega),wrap64_in (n:=(q:Int)) (by omega) (by omega),wrap64_in (n:=(q:Int)*g.Step) (by omega) (by omega),wrap64_in (n:=g.X0+_) (by omega) (by omega),wrap64_in (n:=g.Y0+_) (by omega) (by omega)];omega
def oU(r:Rat)(a b:Int):Rat:=Rat.divInt a 1+r*Rat.divInt (b-a) 1
theorem DG{c:aw}{r:Rat}(q:Qx c.At r 16){a b:Int}(E:-8000000<=a/\a<=8000000)(I:-8000000<=b/\b<=8000000)(p p':Int):
  Ok (dh 20000 a b p p' c.At.Num.Negative c.At.Num.Groups c.At.Den.Negative c.At.Den.Groups) fun z=>Qx z (oU r a b) 27:=by
 unfold dh;refine Ok.bd (oh (by omega) (by omega) (by omega)) fun u hu=>?_
 rw[wrap64_in (by omega) (by omega)];refine Ok.bd (oh (by omega) (by omega) (by omega)) fun v C=>?_
 have j:Qx (an.mk (ah.mk c.At.Num.Negative c.At.Num.Groups) (ah.mk c.At.Den.Negative c.At.Den.Groups)) r 16:=q;refine Ok.bd (tX (by omega) (by omega) j C) fun m hm=>?_
 refine Ok.bd (zj (by omega) (by omega) hu hm) fun z D=>aC.2 (D.mono (by omega))
end Go.L


set_option linter.all false
namespace Go.L
open Go Go.Eng
def PlQ(j m:aE):Prop:=∃x y:Rat,Qx j.X x 27/\Qx j.Y y 27/\R.Qx m.X x 27/\R.Qx m.Y y 27
def Jg(m p:List aE)(k:Nat):Prop:=m.length=k/\p.length=k/\∀j,j<k->PlQ (m.getD j default) (p.getD j default)
theorem Jg.snoc{m p:List aE}{k:Nat}(h:Jg m p k){q z:aE}(hp:PlQ q z):Jg (m++[q]) (p++[z]) (k+1):=by
 obtain⟨a,b,c⟩:=h;refine⟨by simp[a],by simp[b],fun j D=>?_⟩;by_cases C:j=k
 ·have e1:(m++[q]).getD j default=q:=by rw[C,<-a];simp[List.getD]
  have e2:(p++[z]).getD j default=z:=by rw[C,<-b];simp[List.getD]
  rw[e1,e2];exact hp
 ·have e1:(m++[q]).getD j default=m.getD j default:=by simp only[List.getD];rw[List.getElem?_append_left (by omega)]
  have e2:(p++[z]).getD j default=p.getD j default:=by simp only[List.getD];rw[List.getElem?_append_left (by omega)]
  rw[e1,e2];exact c j (by omega)
def jz(f:aw->Option (aE×Int)):List aw->List aE->Option (List aE×Int)
 |[],out=>some (out,0)
 |x::l,out=>bdO (f x) fun v=>bif v.2!=0 then some ([],v.2)else jz f l (out++[v.1])
theorem Gc{n:Nat}{f:aw->Option (aE×Int)}{L:List aw}{F:(List aE×Int->Option (Sum (List aE) (List aE×Int)))->List aE×Int->Option (Sum (List aE) (List aE×Int))}
  (q:L.length<n) (D:L.length<=100000) (z:∀x∈L,∃v,f x=some v)
  (m:∀again out k,F again (out,k)=cdO (decide (k<(L.length:Int))) (gdO (inR k L.length) (bdO (f (gt L k)) fun v=>cdO ((v.2:Int)!=0) (some (Sum.inr (([],v.2)))) (gdO (decide ((out.length+1)*128<=140737488355328)) (gdO (decide (out.length+1<=4611686018427387904)) (again (out++[v.1],MR (k+1))))))) (some (Sum.inl out))):
  Ok (aQ n F ([],0)) fun o=>jz f L []=some (match o with|.inl l=>(l,0)|.inr r=>r):=by
 refine iB (len:=L.length) (fun k out=>jz f L []=jz f (L.drop k) out/\out.length=k) q (by omega) ⟨rfl,rfl⟩ ?_ ?_
 ·rintro again k out hk ⟨e,hlen⟩ C;rw[m];refine Ok.cd (fun _=>?_) (fun h=>by have:=dcF h;omega);refine Ok.gd (by rw[bf];exact decide_eq_true hk) ?_;have hm:L.getD k default∈L:=by simp only[List.getD,geT hk,Option.getD_some];exact List.getElem_mem hk
  have p:L.drop k=L.getD k default::L.drop (k+1):=by
   rw[List.drop_eq_getElem_cons hk];simp only[List.getD,geT hk,Option.getD_some]
  obtain⟨v,j⟩:=z _ hm;rw[cZ];refine Ok.bde j (Ok.cd (fun h=>aC.2 ?_) (fun h=>?_))
  ·rw[e,p,jz,j];show(bif v.2!=0 then _ else _)=_;rw[h];rfl
  ·refine Ok.gd (decide_eq_true (by omega)) (Ok.gd (decide_eq_true (by omega)) (C _ ⟨?_,by simp[hlen]⟩));rw[e,p,jz,j];show(bif v.2!=0 then _ else _)=_;rw[h];rfl
 ·rintro again out ⟨e,_⟩;rw[m];refine Ok.cd (fun h=>by simp at h) (fun _=>aC.2 ?_);rw[e,List.drop_length];rfl
theorem Fw{g:aj}{c:ak}(D:c.Points.length<=80)(q:∀x∈c.Points,∃v,de 20000 g x=some v):gN 20000 g c=jz (de 20000 g) c.Points []:=by
 obtain⟨o,z,C⟩:=Gc (f:=de 20000 g) (n:=20000) (F:=fun m (j,p)=>cdO (decide (p<(c.Points.length:Int))) (gdO (inR p c.Points.length) (bdO (de 20000 g (gt c.Points p)) fun v=>cdO ((v.2:Int)!=0) (some (Sum.inr (([],v.2)))) (gdO (decide ((j.length+1)*128<=140737488355328)) (gdO (decide (j.length+1<=4611686018427387904)) (m (j++[v.1],MR (p+1))))))) (some (Sum.inl j))) (by omega) (by omega) q (fun _ _ _=>rfl);rw[C];unfold gN;show bdO (aQ 20000 _ ([],0)) _=_;rw[z];cases o<;>rfl
end Go.L

