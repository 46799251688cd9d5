import Derived.Test.YtglimpjlhfjgdaaGreatSldL01m
import Derived.Test.YtglimpjlhfjgdaaGreatPl6Slds
set_option linter.all false
namespace Go.L
open Go Go.Eng
theorem wN{m d:Int}(h:0<=m):m.tdiv d=m / d/\m.tmod d=m%d:=⟨Int.tdiv_eq_ediv_of_nonneg h,Int.tmod_eq_emod_of_nonneg h⟩
theorem FQ{n:Nat}(hn:1000<=n){P W V wl x0 x1 x2 vw v1 v2 g0 r0:Int}(k:KN P W V wl x0 x1 x2 vw v1 v2)(z:g0=(x1+1000000000*x2) / v1)(C:r0=(x1+1000000000*x2)%v1){i1 i2 l1 l2:Nat}(O:i1<l1)(T:i2<l2):
  Ok (aQ (α:=Int×Int) (β:=Int) n (fun again x=>match x with
   |(j,rest)=>(
     cdO (decide (j>=1000000000)) (
      cdO (decide ((aa .u64 (rest+v1))>=1000000000)) (
       some (aa .u64 (j-1))
      ) (
       again (aa .u64 (j-1),aa .u64 (rest+v1))
      )
     ) (
      gdO (inR (i1:Int) l1) (
      gdO (inR (i2:Int) l2) (
      cdO (decide ((aa .u64 (j*v2))>(aa .u64 ((aa .u64 (rest*1000000000))+x0)))) (
       cdO (decide ((aa .u64 (rest+v1))>=1000000000)) (
        some (aa .u64 (j-1))
       ) (
        again (aa .u64 (j-1),aa .u64 (rest+v1))
       )
      ) (
       some (j)
      )
      )
      )
     )
    )) (g0,r0)) fun g=>0<=g/\g<1000000000/\W<(g+1)*V/\(1<=g->(g-1)*V<=W):=by
 have b0:=k.v1;have m:=k.v2;have b1:=k.x0;have b3:=k.x1;have b4:=k.x2;have a8:=k.top;have U:=Int.emod_add_mul_ediv (x1+1000000000*x2) v1;have D:=Int.emod_lt_of_pos (x1+1000000000*x2) (by omega:0<v1);have E:=Int.emod_nonneg (x1+1000000000*x2) (by omega:v1≠0);rw[<-z,<-C]at U;rw[<-C]at D E;have I:0<=g0:=by rw[z];exact Int.ediv_nonneg (by omega) (by omega)
 have Y:v1*g0=g0*v1:=Int.mul_comm _ _;have q:0<=V:=by
  have h1:=k.v;have h2:=k.vw;have h3:0<=P*(v2+1000000000*v1):=Int.mul_nonneg (by have:=k.p;omega) (by omega);omega
 have dec:∀g r:Int,0<=g->g<=1000000001->0<=r->r<1000000000->x1+1000000000*x2=g*v1+r->(1000000000<=g\/r*1000000000+x0<g*v2)->W<g*V:=by
  intro g r h1 h2 h3 h4 h5 J;rcases J with J|J
  ·have:1000000000*V<=g*V:=mrT J q;have:=k.lt;omega
  ·refine k.less h1 ?_;have:g*(v2+1000000000*v1)=g*v2+1000000000*(g*v1):=by grind
   omega
 have stop:∀g r:Int,0<=g->g<1000000000->x1+1000000000*x2=g*v1+r->g*v2<=r*1000000000+x0->(1<=g->(g-1)*V<=W):=by
  intro g r h1 h2 h5 J h7;refine k.more h7 (by omega) ?_;have:g*(v2+1000000000*v1)=g*v2+1000000000*(g*v1):=by grind
  omega
 have a7:g0<=1000000001:=by
  by_cases h:g0<=1000000001
  ·exact h
  ·have:1000000002*v1<=g0*v1:=mrT (by omega) (by omega);omega
 refine fu (fun x:Int×Int=>0<=x.1/\x.1<=1000000001/\0<=x.2/\x.2<1000000000/\x1+1000000000*x2=x.1*v1+x.2/\W<(x.1+1)*V) (fun x=>((1000000000-x.2) / 500000000).toNat) ?_ n (g0,r0) ⟨I,a7,E,(by show r0<1000000000;omega),(by show _=g0*v1+r0;omega),(show W<(g0+1)*V from k.first D I (by omega))⟩ (by simp only;omega);rintro again ⟨g,r⟩ ⟨M,a2,a3,a4,a5,a6⟩ ih;simp only at M a2 a3 a4 a5 a6;have next:(1000000000<=g\/r*1000000000+x0<g*v2)->Ok (cdO (decide ((aa .u64 (r+v1))>=1000000000)) (some (aa .u64 (g-1))) (again (aa .u64 (g-1),aa .u64 (r+v1)))) fun g=>0<=g/\g<1000000000/\W<(g+1)*V/\(1<=g->(g-1)*V<=W):=by
  intro h;have hW:=dec g r M a2 a3 a4 a5 h;have b5:1<=g:=by
   rcases h with h|h
   ·omega
   ·by_cases h0:g=0
    ·rw[h0]at h;omega
    ·omega
  have e5:x1+1000000000*x2=(g-1)*v1+(r+v1):=by rw[a5];grind
  rw[ba (n:=r+v1) (by omega) (by omega),ba (by omega) (by omega)];refine Ok.cd (fun h=>?_) (fun h=>?_)
  ·have hb:=dcT h;have N:g-1<1000000000:=by
    by_cases hh:g-1<1000000000
    ·exact hh
    ·have:1000000000*v1<=(g-1)*v1:=mrT (by omega) (by omega);omega
   refine aC.2 ⟨by omega,N,by rw[(by omega:g-1+1=g)];exact hW,stop (g-1) (r+v1) (by omega) N e5 ?_⟩;have:(g-1)*v2<=999999999*999999999:=Int.mul_le_mul (by omega) (by omega) m.1 (by omega);omega
  ·have hb:=dcF h;exact ih _ ⟨by simp only;omega,by simp only;omega,by simp only;omega,by simp only;omega,e5,by simp only;rw[(by omega:g-1+1=g)];exact hW⟩ (by simp only;omega)
 refine Ok.cd (fun h=>?_) (fun h=>?_)
 ·exact next (.inl (dcT h))
 ·have hg:=dcF h;refine Ok.gd (by rw[bf];simpa using O) (Ok.gd (by rw[bf];simpa using T) ?_);have m1:0<=g*v2:=Int.mul_nonneg M m.1;have m2:g*v2<=999999999*999999999:=Int.mul_le_mul (by omega) (by omega) m.1 (by omega);rw[ba (n:=g*v2) (by omega) (by omega),ba (n:=r*1000000000) (by omega) (by omega),ba (n:=r*1000000000+x0) (by omega) (by omega)];refine Ok.cd (fun h=>?_) (fun h=>?_)
  ·exact next (.inr (dcT h))
  ·have:=dcF h;exact aC.2 ⟨M,by omega,a6,stop g r M (by omega) a5 (by omega)⟩
theorem Jc{n:Nat}(hn:1000<=n){v p:List Int}{g:Int}{j:Nat}(hv:Dig v)(hu:Dig p)(hg:0<=g/\g<1000000000)(lv:v.length<=400)(lu:p.length<=900)(hj:j+v.length<p.length):
  Ok (aQ (α:=List Int×Int×Int×Int) (β:=List Int×Int×Int) n (fun again x=>match x with
   | (u, borrow,carry,i)=>(
         cdO (decide (i<(v.length:Int))) (
          gdO (inR i v.length) (
          gdO (inR (MR (i+(j:Int))) u.length) (
          cdO (decide ((MR ((MR ((MR (gt u (MR (i+(j:Int)))))-borrow))-(MR ((aa .u64 ((aa .u64 (g*(aa .u64 (gt v i))))+carry)).tmod 1000000000))))<0)) (
           again (u.set (MR (i+(j:Int))).toNat (aa .u32 (MR ((MR ((MR ((MR (gt u (MR (i+(j:Int)))))-borrow))-(MR ((aa .u64 ((aa .u64 (g*(aa .u64 (gt v i))))+carry)).tmod 1000000000))))+1000000000))),1,aa .u64 ((aa .u64 ((aa .u64 (g*(aa .u64 (gt v i))))+carry)).tdiv 1000000000),MR (i+1))
          ) (
           again (u.set (MR (i+(j:Int))).toNat (aa .u32 (MR ((MR ((MR (gt u (MR (i+(j:Int)))))-borrow))-(MR ((aa .u64 ((aa .u64 (g*(aa .u64 (gt v i))))+carry)).tmod 1000000000))))),0,aa .u64 ((aa .u64 ((aa .u64 (g*(aa .u64 (gt v i))))+carry)).tdiv 1000000000),MR (i+1))
          )
          )
          )
         ) (
          some ((u,borrow,carry))
         )
    )) (p,0,0,0)) fun r=>r.1.length=p.length/\Dig r.1/\(r.2.1=0\/r.2.1=1)/\(0<=r.2.2/\r.2.2<1000000000)/\(∀m,j+v.length<=m->r.1.getD m 0=p.getD m 0)/\vk r.1 j=vk p j/\vl r.1=vl p-pB j*(g*vl v)+pB (j+v.length)*(r.2.1+r.2.2):=by
 refine fu (fun x:List Int×Int×Int×Int=>∃i:Nat,x.2.2.2=(i:Int)/\i<=v.length/\x.1.length=p.length/\Dig x.1/\(x.2.1=0\/x.2.1=1)/\(0<=x.2.2.1/\x.2.2.1<1000000000)/\(∀m,j+i<=m->x.1.getD m 0=p.getD m 0)/\vk x.1 j=vk p j/\vl x.1=vl p-pB j*(g*vk v i)+pB (j+i)*(x.2.1+x.2.2.1)) (fun x=>v.length-x.2.2.2.toNat) ?_ n (p,0,0,0)
  ⟨0,rfl,by omega,rfl,hu,.inl rfl,by simp,fun m _=>rfl,rfl,by simp[qN]⟩ (by simp;omega)
 rintro again ⟨u,z,ca,x⟩ ⟨i,O,h1,h2,D,T,U,J,E,I⟩ ih;simp only at O h2 D T U J E I;subst O;dsimp only;refine Ok.cd (fun h=>?_) (fun h=>?_)
 ·have hi:i<v.length:=by have:=dcT h;omega
  rw[qE (by omega) (by omega),iJ,iJ];refine Ok.gd (by rw[bf];simpa using hi) (Ok.gd (by rw[bf];simp;omega) ?_);have Y:=fj hv i;have du:=fj D (i+j);have m1:0<=g*v.getD i 0:=Int.mul_nonneg hg.1 Y.1;have m2:g*v.getD i 0<=999999999*999999999:=Int.mul_le_mul (by omega) (by omega) Y.1 (by omega);rw[ba (n:=v.getD i 0) (by omega) (by omega),ba (n:=g*v.getD i 0) (by omega) (by omega),ba (n:=g*v.getD i 0+ca) (by omega) (by omega)];generalize hs:g*v.getD i 0+ca=s;have C:0<=s:=by omega
  rw[(wN C).1,(wN C).2];have a1:s / 1000000000<1000000000:=by omega
  have e:s=s%1000000000+1000000000*(s / 1000000000):=by omega
  rw[ba (n:=s / 1000000000) (by omega) (by omega),wrap64_in (n:=s%1000000000) (by omega) (by omega),wrap64_in (n:=u.getD (i+j) 0) (by omega) (by omega),wrap64_in (n:=u.getD (i+j) 0-z) (by omega) (by omega),wrap64_in (n:=u.getD (i+j) 0-z-s%1000000000) (by omega) (by omega),pr (by omega),Int.toNat_natCast];have step:∀d q,(0<=d/\d<1000000000)->(q=0\/q=1)->u.getD (i+j) 0-z-s%1000000000=d-1000000000*q->Ok (again (u.set (i+j) d,q,s / 1000000000,((i+1:Nat):Int))) fun r=>r.1.length=p.length/\Dig r.1/\(r.2.1=0\/r.2.1=1)/\(0<=r.2.2/\r.2.2<1000000000)/\(∀m,j+v.length<=m->r.1.getD m 0=p.getD m 0)/\vk r.1 j=vk p j/\vl r.1=vl p-pB j*(g*vl v)+pB (j+v.length)*(r.2.1+r.2.2):=by
   intro d q hd hb M;refine ih _ ⟨i+1,rfl,by omega,by simpa using h2,kR D hd,hb,by simp only;omega,?_,?_,?_⟩ (by simp;omega)
   ·intro m hm;simp only;rw[kq (by omega)];exact J m (by omega)
   ·simp only;unfold vk at E ⊢;rw[List.take_set_of_le (by omega)];exact E
   ·simp only;rw[pn (by omega),kW,<-Nat.add_assoc,dN,Nat.add_comm i j,lN,I,lN];rw[Nat.add_comm i j]at M;have e2:u.getD (j+i) 0=d-1000000000*q+z+s%1000000000:=by omega
    rw[e2];have e3:s%1000000000=g*v.getD i 0+ca-1000000000*(s / 1000000000):=by omega
    rw[e3];grind
  refine Ok.cd (fun h=>?_) (fun h=>?_)
  ·have N:=dcT h;rw[wrap64_in (n:=u.getD (i+j) 0-z-s%1000000000+1000000000) (by omega) (by omega),bP (by omega) (by omega)];exact step _ 1 (by omega) (.inr rfl) (by omega)
  ·have N:=dcF h;rw[bP (by omega) (by omega)];exact step _ 0 (by omega) (.inl rfl) (by omega)
 ·have hi:i=v.length:=by have:=dcF h;omega
  subst hi;rw[jZ (l:=v) (by omega)]at I;exact aC.2 ⟨h2,D,T,U,J,E,I⟩
theorem Jb{n:Nat}(Y:1000<=n){v p:List Int}{j:Nat}(O:Dig v)(hu:Dig p)(lv:v.length<=400)(lu:p.length<=900)(hj:j+v.length<p.length):
  Ok (aQ (α:=List Int×Int×Int) (β:=List Int×Int) n (fun again x=>match x with
   | (u, c, i) =>(
               cdO (decide (i<(v.length:Int))) (
                gdO (inR (MR (i+(j:Int))) u.length) (
                gdO (inR i v.length) (
                cdO (decide ((aa .u32 ((aa .u32 ((gt u (MR (i+(j:Int))))+(gt v i)))+c))>=1000000000)) (
                 again (u.set (MR (i+(j:Int))).toNat (aa .u32 ((aa .u32 ((aa .u32 ((gt u (MR (i+(j:Int))))+(gt v i)))+c))-1000000000)),1,MR (i+1))
                ) (
                 again (u.set (MR (i+(j:Int))).toNat (aa .u32 ((aa .u32 ((gt u (MR (i+(j:Int))))+(gt v i)))+c)),0,MR (i+1))
                )
                )
                )
               ) (
                some ((u,c))
               )
    )) (p,0,0)) fun r=>r.1.length=p.length/\Dig r.1/\(r.2=0\/r.2=1)/\(∀m,j+v.length<=m->r.1.getD m 0=p.getD m 0)/\vk r.1 j=vk p j/\vl r.1=vl p+pB j*vl v-pB (j+v.length)*r.2:=by
 refine fu (fun x:List Int×Int×Int=>∃i:Nat,x.2.2=(i:Int)/\i<=v.length/\x.1.length=p.length/\Dig x.1/\(x.2.1=0\/x.2.1=1)/\(∀m,j+i<=m->x.1.getD m 0=p.getD m 0)/\vk x.1 j=vk p j/\vl x.1=vl p+pB j*vk v i-pB (j+i)*x.2.1) (fun x=>v.length-x.2.2.toNat) ?_ n (p,0,0)
  ⟨0,rfl,by omega,rfl,hu,.inl rfl,fun m _=>rfl,rfl,by simp[qN]⟩ (by simp;omega)
 rintro again ⟨u,c,x⟩ ⟨i,M,h1,h2,z,N,E,C,D⟩ T;simp only at M h2 z N E C D;subst M;dsimp only;refine Ok.cd (fun h=>?_) (fun h=>?_)
 ·have hi:i<v.length:=by have:=dcT h;omega
  rw[qE (by omega) (by omega),iJ,iJ];refine Ok.gd (by rw[bf];simp;omega) (Ok.gd (by rw[bf];simpa using hi) ?_);have dv:=fj O i;have du:=fj z (i+j);rw[bP (n:=u.getD (i+j) 0+v.getD i 0) (by omega) (by omega),bP (n:=u.getD (i+j) 0+v.getD i 0+c) (by omega) (by omega),pr (by omega),Int.toNat_natCast];have step:∀d q,(0<=d/\d<1000000000)->(q=0\/q=1)->u.getD (i+j) 0+v.getD i 0+c=d+1000000000*q->Ok (again (u.set (i+j) d,q,((i+1:Nat):Int))) fun r=>r.1.length=p.length/\Dig r.1/\(r.2=0\/r.2=1)/\(∀m,j+v.length<=m->r.1.getD m 0=p.getD m 0)/\vk r.1 j=vk p j/\vl r.1=vl p+pB j*vl v-pB (j+v.length)*r.2:=by
   intro d q U hc I;refine T _ ⟨i+1,rfl,by omega,by simpa using h2,kR z U,hc,?_,?_,?_⟩ (by simp;omega)
   ·intro m hm;simp only;rw[kq (by omega)];exact E m (by omega)
   ·simp only;unfold vk at C ⊢;rw[List.take_set_of_le (by omega)];exact C
   ·simp only;rw[pn (by omega),kW,<-Nat.add_assoc,dN,Nat.add_comm i j,lN,D,lN];rw[Nat.add_comm i j]at I;have e2:u.getD (j+i) 0=d+1000000000*q-v.getD i 0-c:=by omega
    rw[e2];grind
  refine Ok.cd (fun h=>?_) (fun h=>?_)
  ·have J:=dcT h;rw[bP (by omega) (by omega)];exact step _ 1 (by omega) (.inr rfl) (by omega)
  ·have J:=dcF h;exact step _ 0 (by omega) (.inl rfl) (by omega)
 ·have hi:i=v.length:=by have:=dcF h;omega
  subst hi;rw[jZ (l:=v) (by omega)]at D;exact aC.2 ⟨h2,z,N,E,C,D⟩
end Go.L

