import Derived.Test.YtfhhaadcodofnaaGreatChkL01q
import Derived.Test.YtfhhaadcodofnaaGreatChkLD
import Derived.Test.YtfhhaadcodofnaaGreatPl6Chks
import Derived.KernelRfl
import Derived.Test.YtfhhaadcodofnaaGreatChkL52tB
import Derived.Test.YtfhhaadcodofnaaGreatChkL52tB
import Derived.Test.YtfhhaadcodofnaaGreatChkL52tB
set_option linter.all false
namespace Go.L
open Go Go.Eng
theorem AE{n:Nat}{z:Int}:eP n z=some (AR z):=E3
theorem Et{n:Nat}(I:4096<n)(g:an):gR n g=some (nA g):=by
 apply Ok.eq;unfold gR;refine Ok.cd (fun h=>aw.2 (oc fun d=>?_).symm) (fun h1=>Ok.cd (fun h=>aw.2 (oc fun d=>?_).symm) (fun h2=>Ok.cd (fun h=>aw.2 (oc fun d=>?_).symm) (fun j=>Ok.cd (fun h=>aw.2 (oc fun d=>?_).symm) (fun m=>Ok.cd (fun h=>aw.2 (oc fun d=>?_).symm) (fun q=>Ok.cd (fun h=>aw.2 (oc fun d=>?_).symm) (fun z=>Ok.cd (fun h=>aw.2 (oc fun d=>?_).symm) (fun C=>Ok.bde AE (Ok.cd (fun h=>aw.2 (oc fun d=>?_).symm) (fun D=>Ok.bde AE (Ok.cd (fun h=>aw.2 (oc fun d=>?_).symm) (fun E=>?_)))))))))))
 ·have:=d.w;have:=dcT h;omega
 ·have:=d.w;have:=dcT h;omega
 ·have:=d.h;have:=dcT h;omega
 ·have:=d.h;have:=dcT h;omega
 ·have:=d.s;have:=dcT h;omega
 ·have:=d.s;have:=dcT h;omega
 ·have:=d.e;simp[this]at h
 ·rw[d.x]at h;cases h
 ·rw[d.y]at h;cases h
 have h1:=dcF h1;have h2:=dcF h2;have j:=dcF j;have m:=dcF m;have q:=dcF q;have z:=dcF z;have d:Dim g:=⟨by omega,by omega,by omega,by simpa using C,D,E⟩;have ha:=F8 d.w d.h;rw[wrap64_in (n:=g.Width*g.Height) (by omega) (by omega)];unfold nA;rw[if_pos d];refine Ok.cd (fun h=>aw.2 ?_) (fun h=>?_)
 ·rw[if_neg];simpa using h
 ·have h:(g.Z.length:Int)=g.Width*g.Height:=by simpa using h
  rw[if_pos h];refine Ok.bde (D2 (p:=qM) (c:=(2:Int)) (s:=g.Z) (by omega) (by omega) ?_ ?_) ?_
  ·intro again k hk;have d1:decide ((k:Int)<(g.Z.length:Int))=true:=by simpa using hk
   have d2:decide (k<g.Z.length)=true:=by simpa using hk
   rw[d1,bj,d2,jo,AE];unfold qM;cases (g.Z.getD k default != -2147483648)<;>cases AR (g.Z.getD k default)<;>rfl
  ·intro again;have d1:decide ((g.Z.length:Int)<(g.Z.length:Int))=false:=by simp
   rw[d1];rfl
  ·cases J:g.Z.any qM with
   |true=>exact aw.2 rfl
   |false=>exact aw.2 rfl
theorem EC{γ σ:Type}{n:Nat}{g:an}{w h:Nat}(hn:200<n)(O:Gd g w h)(mk:γ->Int->σ)(visit:A3 Int->γ->Option γ)
  {f1:(σ->Option γ)->σ->Option γ} {f2:Int->(σ->Option γ)->σ->Option γ} {f3:List (A3 Int)->(σ->Option γ)->σ->Option γ}
  (h1:∀again c x,f1 again (mk c x)=cdO (decide (x<Ki (g.Height-1))) (bdO (aP n (f2 x) (mk c 0)) fun o=>again (mk o (Ki (x+1)))) (some c))
  (h2:∀J again c x,f2 J again (mk c x)=cdO (decide (x<Ki (g.Width-1))) (bdO (some (Ki ((Ki (J*g.Width))+x))) fun k=>bdO (some [A3.mk k (Ki (k+1)) (Ki ((Ki (k+g.Width))+1)),A3.mk k (Ki ((Ki (k+g.Width))+1)) (Ki (k+g.Width))]) fun L=>bdO (aP n (f3 L) (mk c 0)) fun o=>again (mk o (Ki (x+1)))) (some c))
  (h3:∀L again c x,f3 L again (mk c x)=cdO (decide (x<2)) (gdO (inR x L.length) (gdO (inR (gt L x).e0 g.Z.length) (cdO ((gt g.Z (gt L x).e0:Int)!=(-2147483648)) (gdO (inR (gt L x).e1 g.Z.length) (cdO ((gt g.Z (gt L x).e1:Int)!=(-2147483648)) (gdO (inR (gt L x).e2 g.Z.length) (cdO ((gt g.Z (gt L x).e2:Int)!=(-2147483648)) (
    bdO (visit (gt L x) c) fun v=>again (mk v (Ki (x+1)))) (again (mk c (Ki (x+1)))))) (again (mk c (Ki (x+1)))))) (again (mk c (Ki (x+1))))))) (some c))
  (P:List (A3 Int)->γ->Prop) {c0:γ} (T:P [] c0) (hv:∀pre t c,t∈lU g w h->pre.length<2*((w-1)*(h-1))->P pre c->Ok (visit t c) (P (pre++[t]))):Ok (aP n f1 (mk c0 0)) (P (lU g w h)):=by
 have hw:=O.w1;have hh:=O.h1;have hH:=O.H;have hW:=O.W;have e1:Ki (g.Height-1)=((h-1:Nat):Int):=by rw[hH,wrap64_in (by omega) (by omega)];omega
 have e2:Ki (g.Width-1)=((w-1:Nat):Int):=by rw[hW,wrap64_in (by omega) (by omega)];omega
 have mem:∀j i k,j<h-1->i<w-1->k<2->(jB g.Width j i).getD k default∈oq g.Width (w-1) (h-1):=by
  intro j i k hj hi hk;unfold oq Eb;refine List.mem_flatMap.2 ⟨j,List.mem_range.2 hj,List.mem_flatMap.2 ⟨i,List.mem_range.2 hi,?_⟩⟩;have U:k<(jB g.Width j i).length:=hk;simp only[List.getD,geT U,Option.getD_some];exact List.getElem_mem U
 refine eC (len:=h-1) mk (fun j c=>P ((oq g.Width (w-1) j).filter (pg g.Z)) c) (by omega) (by omega) T ?_ ?_
 ·rintro again j c hj hP ih;rw[h1 again c j,e1];refine Ok.cd (fun _=>?_) (fun h=>by have:=dcF h;omega);refine Ok.bd (R:=P ((oq g.Width (w-1) (j+1)).filter (pg g.Z))) ?_ (fun o ho=>ih _ ho);refine eC (len:=w-1) mk (fun i c=>P ((oq g.Width (w-1) j++(List.range i).flatMap (jB g.Width j)).filter (pg g.Z)) c) (by omega) (by omega) (by simpa using hP) ?_ ?_
  ·rintro q i c hi E a1;rw[h2 j q c i,e2];refine Ok.cd (fun _=>?_) (fun h=>by have:=dcF h;omega);have C:∀k,k<2->inR ((jB g.Width j i).getD k default).e0 g.Z.length=true/\inR ((jB g.Width j i).getD k default).e1 g.Z.length=true/\inR ((jB g.Width j i).getD k default).e2 g.Z.length=true:=fun k hk=>by rw[hW];exact DX O.m hw.2 hh.2 hj hi k hk
   have hL:(jB g.Width j i).length=2:=rfl;have I:∀k,k<2->(jB g.Width j i).getD k default∈oq g.Width (w-1) (h-1):=fun k hk=>mem j i k hj hi hk
   show Ok (bdO (aP n (f3 (jB g.Width j i)) (mk c 0)) fun o=>q (mk o (Ki ((i:Int)+1)))) _;refine Ok.bd (R:=P ((oq g.Width (w-1) j++(List.range (i+1)).flatMap (jB g.Width j)).filter (pg g.Z))) ?_ (fun o ho=>a1 _ ho);rw[Bu,<-List.append_assoc,List.filter_append];have a6:(w-1)*(j+1)<=(w-1)*(h-1):=Nat.mul_le_mul_left _ (by omega);rw[Nat.mul_add,Nat.mul_one]at a6;have a7:((oq g.Width (w-1) j++(List.range i).flatMap (jB g.Width j)).filter (pg g.Z)).length+2<=2*((w-1)*(h-1)):=by
    have:=List.length_filter_le (pg g.Z) (oq g.Width (w-1) j++(List.range i).flatMap (jB g.Width j));rw[List.length_append,xG,AA,Nat.mul_assoc]at this;omega
   generalize (oq g.Width (w-1) j++(List.range i).flatMap (jB g.Width j)).filter (pg g.Z)=pre at E a7;generalize jB g.Width j i=L at C hL I;refine eC (len:=2) mk (fun k c=>P (pre++(L.take k).filter (pg g.Z)) c) (by omega) (by omega) (by simpa using E) ?_ ?_
   ·rintro z k c hk D Y;obtain⟨r0,r1,r2⟩:=C k hk;have hm:=I k hk;have N:=Bo (L:=L) (p:=pg g.Z) (k:=k) (by omega);rw[<-jo]at r0 r1 r2 N hm;have no:pg g.Z (gt L (k:Int))=false->Ok (z (mk c (Ki ((k:Int)+1)))) (P (pre++L.filter (pg g.Z))):=fun h=>Y _ (by rw[N,h];simpa using D)
    rw[h3];refine Ok.cd (fun _=>?_) (fun h=>by have:=dcF h;omega);refine Ok.gd (by rw[bj];exact decide_eq_true (by omega)) (Ok.gd r0 ?_);refine Ok.cd (fun T=>?_) (fun h=>no (by unfold pg;rw[h];rfl));refine Ok.gd r1 (Ok.cd (fun h1=>?_) (fun h=>no (by unfold pg;rw[T,h];rfl)));refine Ok.gd r2 (Ok.cd (fun h2=>?_) (fun h=>no (by unfold pg;rw[T,h1,h];rfl)));have hz:pg g.Z (gt L (k:Int))=true:=by unfold pg;rw[T,h1,h2];rfl
    refine Ok.bd (hv _ _ _ (List.mem_filter.2 ⟨hm,hz⟩) (by rw[List.length_append];have:=List.length_filter_le (pg g.Z) (L.take k);rw[List.length_take]at this;omega) D) fun v a8=>Y v ?_
    rw[N,if_pos hz,<-List.append_assoc];exact a8
   ·rintro z c D;rw[h3];refine Ok.cd (fun h=>by simp at h) (fun _=>aw.2 ?_);rw[List.take_of_length_le (by omega)]at D;exact D
  ·rintro q c E;rw[h2 j q c,e2];refine Ok.cd (fun h=>by have:=dcT h;omega) (fun _=>aw.2 ?_);rw[Cf];exact E
 ·rintro again c hP;rw[h1 again c,e1];exact Ok.cd (fun h=>by have:=dcT h;omega) (fun _=>aw.2 hP)
theorem BO{γ σ:Type}{n:Nat}{g:an}{w h:Nat}(m:200<n)(j:Gd g w h)(mk:γ->Int->σ)(visit:A3 Int->γ->Option γ)
  {f1:(σ->Option γ)->σ->Option γ} {f2:Int->(σ->Option γ)->σ->Option γ} {f3:List (A3 Int)->(σ->Option γ)->σ->Option γ}
  (h1:∀again c x,f1 again (mk c x)=cdO (decide (x<Ki (g.Height-1))) (bdO (aP n (f2 x) (mk c 0)) fun o=>again (mk o (Ki (x+1)))) (some c))
  (h2:∀J again c x,f2 J again (mk c x)=cdO (decide (x<Ki (g.Width-1))) (bdO (some (Ki ((Ki (J*g.Width))+x))) fun k=>bdO (some [A3.mk k (Ki (k+1)) (Ki ((Ki (k+g.Width))+1)),A3.mk k (Ki ((Ki (k+g.Width))+1)) (Ki (k+g.Width))]) fun L=>bdO (aP n (f3 L) (mk c 0)) fun o=>again (mk o (Ki (x+1)))) (some c))
  (q:∀L again c x,f3 L again (mk c x)=cdO (decide (x<2)) (gdO (inR x L.length) (gdO (inR (gt L x).e0 g.Z.length) (cdO ((gt g.Z (gt L x).e0:Int)!=(-2147483648)) (gdO (inR (gt L x).e1 g.Z.length) (cdO ((gt g.Z (gt L x).e1:Int)!=(-2147483648)) (gdO (inR (gt L x).e2 g.Z.length) (cdO ((gt g.Z (gt L x).e2:Int)!=(-2147483648)) (
    bdO (visit (gt L x) c) fun v=>again (mk v (Ki (x+1)))) (again (mk c (Ki (x+1)))))) (again (mk c (Ki (x+1)))))) (again (mk c (Ki (x+1))))))) (some c))
  (P:List (A3 Int)->γ->Prop) {c0:γ} (z:P [] c0) (C:∀pre t c,t∈lU g w h->pre.length<=8000->P pre c->Ok (visit t c) (P (pre++[t]))):Ok (aP n f1 (mk c0 0)) (P (lU g w h)):=
 EC m j mk visit h1 h2 q P z fun pre t c D I E=>C pre t c D (by
  have:=Nat.mul_le_mul (show w-1<=63 by have:=j.w1;omega) (show h-1<=63 by have:=j.h1;omega);omega) E
theorem H8{α β:Type}{a:Bool}{x:Option α}{f:α->Option β}:bdO (gdO a x) f=gdO a (bdO x f):=by cases a<;>rfl
theorem GU{n:Nat}(j:200<n){g:an}{w h:Nat}(m:Gd g w h):fi n g=some (lU g w h):=by
 apply Ok.eq;unfold fi;refine Ok.bd (R:=fun o=>o=lU g w h) ?_ (fun o q=>aw.2 q);refine BO (γ:=List (A3 Int)) j m (fun c x=>(c,x)) (fun t c=>gdO (decide ((c.length+1)*24<=140737488355328)) (gdO (decide (c.length+1<=4611686018427387904)) (some (c++[t]))))
  (fun _ _ _=>rfl) (fun _ _ _ _=>rfl) ?_ (fun pre c=>c=pre) rfl ?_
 ·intro L again c x;rw[H8,H8];rfl
 ·rintro pre t c z C rfl;exact Ok.gd (decide_eq_true (by omega)) (Ok.gd (decide_eq_true (by omega)) (aw.2 rfl))
end Go.L


set_option linter.all false
namespace Go.L
open Go Go.Eng
def Fl{α:Type}(x:α):List α->List (List α)
 |[]=>[[x]]
 |y::l=>(x::y::l)::(Fl x l).map (y::·)
def perms{α:Type}:List α->List (List α)
 |[]=>[[]]
 |x::l=>(perms l).flatMap (Fl x)
theorem BF{α:Type}{x:α}{b:List α}:∀a:List α,a++x::b∈Fl x (a++b)
 |[]=>by cases b<;>simp[Fl]
 |y::a=>by
  rw[List.cons_append,List.cons_append,Fl];exact List.mem_cons_of_mem _ (List.mem_map.2 ⟨_,BF a,rfl⟩)
theorem zp{α:Type}:∀(l p:List α),p.Perm l->p∈perms l
 |[],p,h=>by rw[List.perm_nil.1 h];simp[perms]
 |x::l,p,h=>by
  obtain⟨a,b,rfl⟩:=List.append_of_mem (h.mem_iff.2 (by simp:x∈x::l));have h2:(a++b).Perm l:=(List.perm_cons x).1 ((List.perm_middle.symm).trans h);exact List.mem_flatMap.2 ⟨_,zp l _ h2,BF a⟩
def sH(n:Nat)(g:an)(level:Int)(v1:List (A2 Int×A2 Int)×List (A2 Int×Bool))(sl:Int)(v21:List (A2 Int)):Option (List aa):=
  bdO (aP (α:=List (A2 Int×Bool)×List aa×Int) (β:=List (A2 Int×Bool)×List aa) n (fun E (j,C,q)=>(
   cdO (decide (q<sl)) (
    gdO (inR q v21.length) (
    cdO (!(getM false v1.2 (gt v21 q))) (
     bdO (eR n (gt v21 q) false j g.X0 g.Y0 g.Step g.Width g.Height g.Z level v1.1 C) fun T=>(
     E (T.1,T.2,Ki (q+1))
     )
    ) (
     E (j,C,Ki (q+1))
    )
    )
   ) (
    some ((j,C))
   )
  )) (([]:List (A2 Int×Bool)),[],0)) fun a1=>(
   match a1 with
   |(N,O)=>(
    bdO (aP (α:=List (A2 Int×Bool)×List aa×Int) (β:=List aa) n (fun I (m,D,z)=>(
     cdO (decide (z<(v21.length:Int))) (
      gdO (inR z v21.length) (
      cdO (!(getM false m (gt v21 z))) (
       bdO (eR n (gt v21 z) true m g.X0 g.Y0 g.Step g.Width g.Height g.Z level v1.1 D) fun U=>(
       I (U.1,U.2,Ki (z+1))
       )
      ) (
       I (m,D,Ki (z+1))
      )
      )
     ) (
      some (D)
     )
    )) (N,O,0)) fun J=>(
     bdO (aM n J) fun Y=>(
     gdO (decide (Y.length=J.length)) (
     some (Y)
     )
     )
    )
   ))
def zz(j:List (A2 Int))(m:A2 Int×A2 Int):Option (List (A2 Int)):=
 gdO (decide ((j.length+1)*16<=140737488355328)) (
 gdO (decide (j.length+1<=4611686018427387904)) (
 some (j++[m.1])
 )
 )
theorem Hh(n:Nat)(g:an)(level:Int):im n g level=bdO (bf n g g.X0 g.Y0 g.Step g.Width g.Height g.Z level ([]:List (A2 Int×A2 Int)) ([]:List (A2 Int×Bool))) fun v1=>
  BK v1.1 zz [] fun j=>bdO (aD n j) fun v21=>gdO (decide (v21.length=j.length)) (sH n g level v1 (j.length:Int) v21):=rfl
theorem xR:∀(l:List (A2 Int×A2 Int)) (a:List (A2 Int)),a.length+l.length<=100000->oS zz a l=some (a++l.map (·.1))
 |[],a,_=>by simp[oS]
 |e::l,a,h=>by
  rw[List.length_cons]at h;have e1:zz a e=some (a++[e.1]):=by
   unfold zz;rw[decide_eq_true (show(a.length+1)*16<=140737488355328 by omega),decide_eq_true (show a.length+1<=4611686018427387904 by omega)];rfl
  rw[oS,e1];show oS zz (a++[e.1]) l=_;rw[xR l _ (by rw[List.length_append,List.length_cons,List.length_nil];omega),List.append_assoc];rfl
theorem BJ{n:Nat}{g:an}{level:Int}{v1:List (A2 Int×A2 Int)×List (A2 Int×Bool)}{S:List (A2 Int)}{r:List aa}
  (h1:bf n g g.X0 g.Y0 g.Step g.Width g.Height g.Z level ([]:List (A2 Int×A2 Int)) ([]:List (A2 Int×Bool))=some v1) (z:v1.1.length<=100000)
  (h2:∀p:List (A2 Int),p.Perm (v1.1.map (·.1))->aD n p=some S) (m:S.length=v1.1.length) (q:sH n g level v1 (v1.1.length:Int) S=some r):im n g level=some r:=by
 rw[Hh,h1];show BK v1.1 zz [] _=_;refine GV fun p hp=>?_
 have j:=hp.length_eq;rw[xR p [] (by simp;omega),List.nil_append];show bdO (aD n (p.map (·.1))) _=_;rw[h2 _ (hp.map _)];show gdO (decide (S.length=(p.map (·.1)).length)) (sH n g level v1 ((p.map (·.1)).length:Int) S)=_;rw[List.length_map,j,m,decide_eq_true rfl,q];rfl
def exG:an:=an.mk 0 0 2 3 3 [(0:Int),(0:Int),(0:Int),(0:Int),(4:Int),(0:Int),(0:Int),(0:Int),(0:Int)]
def exV:List (A2 Int×A2 Int)×List (A2 Int×Bool):=(bf 20000 exG 0 0 2 3 3 exG.Z 1 ([]:List (A2 Int×A2 Int)) ([]:List (A2 Int×Bool))).getD default
def exK:List (A2 Int):=[⟨0,4⟩,⟨1,4⟩,⟨3,4⟩,⟨4,5⟩,⟨4,7⟩,⟨4,8⟩]
def exL:List aa:=(sH 20000 exG 1 exV 6 exK).getD []
theorem JA:bf 20000 exG exG.X0 exG.Y0 exG.Step exG.Width exG.Height exG.Z 1 ([]:List (A2 Int×A2 Int)) ([]:List (A2 Int×Bool))=some exV:=by kernel_rfl
theorem JB:((perms (exV.1.map (·.1))).all fun p=>aD 20000 p==some exK)=true:=by kernel_rfl
theorem Ja:sH 20000 exG 1 exV (exV.1.length:Int) exK=some exL:=by kernel_rfl
theorem Gg:im 20000 exG 1=some exL:=
 BJ JA (lbT (by kernel_rfl)) (fun p hp=>eq_of_beq (List.all_eq_true.1 JB p (zp _ _ hp))) (by kernel_rfl) Ja
theorem D9:lB 20000=some true:=rfl
end Go.L


set_option linter.all false
namespace Go.L
open Go Go.Eng
def B8(d:Int):Bool:=decide (d>=1000000000)
def vI(neg:Bool)(g:List Int):Bool:=!(g.any B8)&&(if g=[]then !neg else(g.getD (g.length-1) 0!=0))
theorem FJ:∀{g:List Int},Dig g->(g≠[]->g.getD (g.length-1) 0≠0)->Can g
 |[],_,_=>trivial
 |d::l,h,m=>by
  refine⟨h d (by simp),fun e=>?_,FJ (fun x hx=>h x (by simp[hx])) fun j=>?_⟩
  ·subst e;simpa using m (by simp)
  ·have q:0<l.length:=List.length_pos_iff.2 j;have:=m (by simp);have e:(d::l).length-1=(l.length-1)+1:=by rw[List.length_cons];omega
   rw[e]at this;simpa using this
theorem H7{neg:Bool}{g:List Int}(m:∀d∈g,0<=d)(h:vI neg g=true):∃v,isI neg g v:=by
 unfold vI at h;rw[Bool.and_eq_true]at h;have hb:g.any B8=false:=by simpa using h.1
 have hd:Dig g:=fun d hd=>by
  have:=m d hd;have:=(List.any_eq_false.1 hb) d hd;unfold B8 at this;have:=dcF (by simpa using this:decide (d>=1000000000)=false);omega
 refine⟨if neg then-vl g else vl g,FJ hd fun j=>?_,fun q e=>?_,rfl⟩
 ·have h2:=h.2;rw[if_neg j]at h2;simpa using h2
 ·have h2:=h.2;rw[if_pos e,q]at h2;cases h2
theorem B7{n:Nat}{x:ai}(m:1000<=n)(q:x.Groups.length<=900):eh n x=some (vI x.Negative x.Groups):=by
 unfold eh vI;by_cases hx:x.Groups=[]
 ·rw[hx];rfl
 ·have j:0<x.Groups.length:=List.length_pos_iff.2 hx;have e:(((x.Groups.length:Int):Int)==0)=false:=by simp[hx]
  rw[e,if_neg hx];show gdO _ _=_;rw[kG j (by omega),bj,dY];have e1:decide (x.Groups.length-1<x.Groups.length)=true:=by simp;omega
  rw[e1];show cdO _ _ _=_;have hs:aZ n x.Groups=some (x.Groups.any B8):=by
   unfold aZ;have:bx n x.Groups=some (rD B8 x.Groups):=sX (fun x=>rfl) (by omega) (by omega);rw[this];show some (decide (rD _ x.Groups>=0))=_;rw[xC]
  rw[hs];cases z:(x.Groups.getD (x.Groups.length-1) 0!=0)
  ·rw[Bool.and_false];rfl
  ·rw[Bool.and_true];rfl
theorem yz{γ ρ:Type}[Inhabited γ]{n:Nat}{s:List γ}{p:γ->Bool}{c:ρ}{F:(Int->Option (Sum Unit ρ))->Int->Option (Sum Unit ρ)}(D:s.length<n)(E:s.length<=9223372036854775806)
  (step:∀again (k:Nat),k<s.length->F again (k:Int)=if p (s.getD k default)=true then some (.inr c)else again (Ki ((k:Int)+1))) (m:∀again,F again (s.length:Int)=some (.inl ())):aP n F 0=some (if s.any p=true then .inr c else .inl ()):=by
 apply Ok.eq;refine vB (len:=s.length) (fun k=>∀j,j<k->p (s.getD j default)=false) D E (by intro j q;omega) ?_ ?_
 ·intro again k hk z I;rw[step again k hk];by_cases h:p (s.getD k default)=true
  ·rw[if_pos h];refine aw.2 ?_;rw[if_pos];refine List.any_eq_true.2 ⟨s.getD k default,?_,h⟩;simp only[List.getD,geT hk,Option.getD_some];exact List.getElem_mem hk
  ·rw[if_neg h];exact I fun j q=>by
    by_cases C:j=k
    ·rw[C];simpa using h
    ·exact z j (by omega)
 ·intro again z;rw[m];refine aw.2 ?_;rw[if_neg];intro ha;obtain⟨x,hx,hp⟩:=List.any_eq_true.1 ha;obtain⟨j,q,rfl⟩:=List.getElem_of_mem hx;have:=z j q;simp only[List.getD,geT q,Option.getD_some]at this;rw[this]at hp;cases hp
theorem A4{n:Nat}{x:ai}(m:1000<=n)(q:x.Groups.length<=900):cE n x=some (vI x.Negative x.Groups):=by
 apply Ok.eq;unfold cE;refine Ok.bde (yz (p:=B8) (c:=false) (s:=x.Groups) (by omega) (by omega) ?_ ?_) ?_
 ·intro again k hk;have d1:decide ((k:Int)<(x.Groups.length:Int))=true:=by simpa using hk
  have d2:decide (k<x.Groups.length)=true:=by simpa using hk
  rw[d1,bj,d2,jo];unfold B8;cases decide (x.Groups.getD k default>=1000000000)<;>rfl
 ·intro again;have d1:decide ((x.Groups.length:Int)<(x.Groups.length:Int))=false:=by simp
  rw[d1];rfl
 ·unfold vI;cases hb:x.Groups.any B8 with
  |true=>exact aw.2 rfl
  |false=>
   by_cases hx:x.Groups=[]
   ·rw[if_neg (by decide),hx];exact aw.2 rfl
   ·have j:0<x.Groups.length:=List.length_pos_iff.2 hx;rw[if_neg (by decide),if_neg hx];refine Ok.cd (fun h=>absurd (by simpa using h) hx) (fun _=>?_);rw[kG j (by omega)];refine Ok.gd (by rw[bj];simp;omega) (aw.2 ?_);rw[dY];rfl
theorem zr{n:Nat}{x:ar}(hn:20000<=n)(d1:∀d∈x.Num.Groups,0<=d)(d2:∀d∈x.Den.Groups,0<=d)(l1:x.Num.Groups.length<=16)(l2:x.Den.Groups.length<=16):
  (cD n x=some true/\bY n x=some true/\∃r,Qx x r 16)\/(cD n x=some false/\bY n x=some false):=by
 have Y:=B7 (n:=n) (x:=x.Num) (by omega) (by omega);have a2:=B7 (n:=n) (x:=x.Den) (by omega) (by omega);have b1:=A4 (n:=n) (x:=x.Num) (by omega) (by omega);have b2:=A4 (n:=n) (x:=x.Den) (by omega) (by omega);unfold cD bY;rw[Y,b1,a2,b2];cases v1:vI x.Num.Negative x.Num.Groups with
 |false=>exact .inr ⟨rfl,rfl⟩
 |true=>
  cases v2:vI x.Den.Negative x.Den.Groups with
  |false=>exact .inr ⟨rfl,rfl⟩
  |true=>
   obtain⟨p,hp⟩:=H7 d1 v1;obtain⟨q,m⟩:=H7 d2 v2;show(bdO (dC n x.Den) _=_/\bdO (cx n x.Den) _=_/\_)\/(bdO (dC n x.Den) _=_/\bdO (cx n x.Den) _=_);rw[kW (by omega) (by omega) m,R.kW (by omega) (by omega) m];by_cases a6:q<=0
   ·have:decide (sgn q<=0)=true:=decide_eq_true (by have:=di q;omega);refine .inr ⟨?_,?_⟩
    ·show cdO (decide (sgn q<=0)) _ _=_;rw[this];rfl
    ·show cdO (decide (sgn q<=0)) _ _=_;rw[this];rfl
   ·have hs:decide (sgn q<=0)=false:=decide_eq_false (by have:=di q;omega);obtain⟨g1,I,z⟩:=uu (n:=n) (by omega) hp m (by omega) (by omega);obtain⟨g2,J,C⟩:=R.uu (n:=n) (by omega) hp m (by omega) (by omega);obtain⟨o1,N,D⟩:=zZ (n:=n) (v:=1) (by omega) (by decide) (by decide);obtain⟨o2,O,E⟩:=R.vi (n:=n) (v:=1) (by omega) (by decide) (by decide);have a7:=iR hp (k:=16) l1;have a8:=iR m (k:=16) l2;have T:0<=gZ p q/\gZ p q<=q:=by
     unfold gZ;have:=Nat.gcd_le_right p.natAbs (by omega:0<q.natAbs);omega
    have b0:g1.Groups.length<=16:=iH z (by omega) (by omega);have b3:g2.Groups.length<=16:=iH C (by omega) (by omega);have b4:=jg D (by decide) (by decide);have b5:=jg E (by decide) (by decide);have c1:=lR (n:=n) (by omega) z D (by omega) (by omega);have c2:=R.lR (n:=n) (by omega) C E (by omega) (by omega);have t1:(cdO (decide (sgn q<=0)) (some false) (bdO (iY n x.Num x.Den) fun v10=>bdO (fZ n 1) fun v12=>bdO (fL n v10 v12) fun j=>some ((j:Int)==0)):Option Bool)=some (sgn (gZ p q-1)==0):=by
     rw[hs,I,N];show bdO (fL n g1 o1) _=_;rw[c1];rfl
    have t2:(cdO (decide (sgn q<=0)) (some false) (bdO (fy n x.Num x.Den) fun v10=>bdO (cq n 1) fun v12=>bdO (dQ n v10 v12) fun j=>some ((j:Int)==0)):Option Bool)=some (sgn (gZ p q-1)==0):=by
     rw[hs,J,O];show bdO (dQ n g2 o2) _=_;rw[c2];rfl
    by_cases U:gZ p q=1
    ·have e:(sgn (gZ p q-1)==0)=true:=by rw[U];rfl
     rw[e]at t1 t2;refine .inl ⟨t1,t2,⟨p,q.toNat,by omega,?_⟩,?_⟩
     ·have:q.toNat=q.natAbs:=by omega
      rw[this];unfold gZ at U;exact(by omega:Nat.gcd p.natAbs q.natAbs=1)
     ·refine⟨hp,?_,l1,l2⟩;show isI _ _ ((q.toNat:Nat):Int);rw[Int.toNat_of_nonneg (by omega)];exact m
    ·have e:(sgn (gZ p q-1)==0)=false:=by
      have:=di (gZ p q-1);rw[beq_eq_false_iff_ne];omega
     rw[e]at t1 t2;exact .inr ⟨t1,t2⟩
end Go.L


set_option linter.all false
namespace Go.L
open Go Go.Eng
end Go.L

