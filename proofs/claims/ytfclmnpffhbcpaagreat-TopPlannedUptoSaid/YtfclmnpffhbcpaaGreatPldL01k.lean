import Derived.Test.YtfclmnpffhbcpaaGreatPldL01m
import Derived.Test.YtfclmnpffhbcpaaGreatPl6Plds
set_option linter.all false
namespace Go.L
open Go Go.Eng
theorem qi{m d:Int}(h:0<=m):m.tdiv d=m / d/\m.tmod d=m%d:=⟨Int.tdiv_eq_ediv_of_nonneg h,Int.tmod_eq_emod_of_nonneg h⟩
theorem Ez{n:Nat}(hn:1000<=n){P W V wl x0 x1 x2 vw v1 v2 g0 r0:Int}(k:KN P W V wl x0 x1 x2 vw v1 v2)(C:g0=(x1+1000000000*x2) / v1)(D:r0=(x1+1000000000*x2)%v1){i1 i2 l1 l2:Nat}(S:i1<l1)(T:i2<l2):
  Ok (aV (α:=Int×Int) (β:=Int) n (fun again x=>match x with
   |(j,rest)=>(
     cdO (decide (j>=1000000000)) (
      cdO (decide ((af .u64 (rest+v1))>=1000000000)) (
       some (af .u64 (j-1))
      ) (
       again (af .u64 (j-1),af .u64 (rest+v1))
      )
     ) (
      gdO (inR (i1:Int) l1) (
      gdO (inR (i2:Int) l2) (
      cdO (decide ((af .u64 (j*v2))>(af .u64 ((af .u64 (rest*1000000000))+x0)))) (
       cdO (decide ((af .u64 (rest+v1))>=1000000000)) (
        some (af .u64 (j-1))
       ) (
        again (af .u64 (j-1),af .u64 (rest+v1))
       )
      ) (
       some (j)
      )
      )
      )
     )
    )) (g0,r0)) fun g=>0<=g/\g<1000000000/\W<(g+1)*V/\(1<=g->(g-1)*V<=W):=by
 have a8:=k.v1;have q:=k.v2;have b0:=k.x0;have b1:=k.x1;have b2:=k.x2;have a7:=k.top;have U:=Int.emod_add_mul_ediv (x1+1000000000*x2) v1;have E:=Int.emod_lt_of_pos (x1+1000000000*x2) (by omega:0<v1);have I:=Int.emod_nonneg (x1+1000000000*x2) (by omega:v1≠0);rw[<-C,<-D]at U;rw[<-D]at E I;have J:0<=g0:=by rw[C];exact Int.ediv_nonneg (by omega) (by omega)
 have Y:v1*g0=g0*v1:=Int.mul_comm _ _;have z:0<=V:=by
  have h1:=k.v;have h2:=k.vw;have h3:0<=P*(v2+1000000000*v1):=Int.mul_nonneg (by have:=k.p;omega) (by omega);omega
 have dec:∀g r:Int,0<=g->g<=1000000001->0<=r->r<1000000000->x1+1000000000*x2=g*v1+r->(1000000000<=g\/r*1000000000+x0<g*v2)->W<g*V:=by
  intro g r h1 h2 h3 h4 h5 N;rcases N with N|N
  ·have:1000000000*V<=g*V:=mrT N z;have:=k.lt;omega
  ·refine k.less h1 ?_;have:g*(v2+1000000000*v1)=g*v2+1000000000*(g*v1):=by grind
   omega
 have stop:∀g r:Int,0<=g->g<1000000000->x1+1000000000*x2=g*v1+r->g*v2<=r*1000000000+x0->(1<=g->(g-1)*V<=W):=by
  intro g r h1 h2 h5 N h7;refine k.more h7 (by omega) ?_;have:g*(v2+1000000000*v1)=g*v2+1000000000*(g*v1):=by grind
  omega
 have Z:g0<=1000000001:=by
  by_cases h:g0<=1000000001
  ·exact h
  ·have:1000000002*v1<=g0*v1:=mrT (by omega) (by omega);omega
 refine ee (fun x:Int×Int=>0<=x.1/\x.1<=1000000001/\0<=x.2/\x.2<1000000000/\x1+1000000000*x2=x.1*v1+x.2/\W<(x.1+1)*V) (fun x=>((1000000000-x.2) / 500000000).toNat) ?_ n (g0,r0) ⟨J,Z,I,(by show r0<1000000000;omega),(by show _=g0*v1+r0;omega),(show W<(g0+1)*V from k.first E J (by omega))⟩ (by simp only;omega);rintro again ⟨g,r⟩ ⟨O,a2,a3,a4,a5,a6⟩ ih;simp only at O a2 a3 a4 a5 a6;have next:(1000000000<=g\/r*1000000000+x0<g*v2)->Ok (cdO (decide ((af .u64 (r+v1))>=1000000000)) (some (af .u64 (g-1))) (again (af .u64 (g-1),af .u64 (r+v1)))) fun g=>0<=g/\g<1000000000/\W<(g+1)*V/\(1<=g->(g-1)*V<=W):=by
  intro h;have hW:=dec g r O a2 a3 a4 a5 h;have b3:1<=g:=by
   rcases h with h|h
   ·omega
   ·by_cases h0:g=0
    ·rw[h0]at h;omega
    ·omega
  have e5:x1+1000000000*x2=(g-1)*v1+(r+v1):=by rw[a5];grind
  rw[aO (n:=r+v1) (by omega) (by omega),aO (by omega) (by omega)];refine Ok.cd (fun h=>?_) (fun h=>?_)
  ·have hb:=dcT h;have R:g-1<1000000000:=by
    by_cases hh:g-1<1000000000
    ·exact hh
    ·have:1000000000*v1<=(g-1)*v1:=mrT (by omega) (by omega);omega
   refine aC.2 ⟨by omega,R,by rw[(by omega:g-1+1=g)];exact hW,stop (g-1) (r+v1) (by omega) R e5 ?_⟩;have:(g-1)*v2<=999999999*999999999:=Int.mul_le_mul (by omega) (by omega) q.1 (by omega);omega
  ·have hb:=dcF h;exact ih _ ⟨by simp only;omega,by simp only;omega,by simp only;omega,by simp only;omega,e5,by simp only;rw[(by omega:g-1+1=g)];exact hW⟩ (by simp only;omega)
 refine Ok.cd (fun h=>?_) (fun h=>?_)
 ·exact next (.inl (dcT h))
 ·have hg:=dcF h;refine Ok.gd (by rw[bm];simpa using S) (Ok.gd (by rw[bm];simpa using T) ?_);have m1:0<=g*v2:=Int.mul_nonneg O q.1;have m2:g*v2<=999999999*999999999:=Int.mul_le_mul (by omega) (by omega) q.1 (by omega);rw[aO (n:=g*v2) (by omega) (by omega),aO (n:=r*1000000000) (by omega) (by omega),aO (n:=r*1000000000+x0) (by omega) (by omega)];refine Ok.cd (fun h=>?_) (fun h=>?_)
  ·exact next (.inr (dcT h))
  ·have:=dcF h;exact aC.2 ⟨O,by omega,a6,stop g r O (by omega) a5 (by omega)⟩
theorem FV{n:Nat}(hn:1000<=n){v q:List Int}{g:Int}{j:Nat}(hv:Dig v)(hu:Dig q)(hg:0<=g/\g<1000000000)(lv:v.length<=400)(lu:q.length<=900)(hj:j+v.length<q.length):
  Ok (aV (α:=List Int×Int×Int×Int) (β:=List Int×Int×Int) n (fun again x=>match x with
   | (u, borrow,carry,i)=>(
         cdO (decide (i<(v.length:Int))) (
          gdO (inR i v.length) (
          gdO (inR (Hy (i+(j:Int))) u.length) (
          cdO (decide ((Hy ((Hy ((Hy (gt u (Hy (i+(j:Int)))))-borrow))-(Hy ((af .u64 ((af .u64 (g*(af .u64 (gt v i))))+carry)).tmod 1000000000))))<0)) (
           again (u.set (Hy (i+(j:Int))).toNat (af .u32 (Hy ((Hy ((Hy ((Hy (gt u (Hy (i+(j:Int)))))-borrow))-(Hy ((af .u64 ((af .u64 (g*(af .u64 (gt v i))))+carry)).tmod 1000000000))))+1000000000))),1,af .u64 ((af .u64 ((af .u64 (g*(af .u64 (gt v i))))+carry)).tdiv 1000000000),Hy (i+1))
          ) (
           again (u.set (Hy (i+(j:Int))).toNat (af .u32 (Hy ((Hy ((Hy (gt u (Hy (i+(j:Int)))))-borrow))-(Hy ((af .u64 ((af .u64 (g*(af .u64 (gt v i))))+carry)).tmod 1000000000))))),0,af .u64 ((af .u64 ((af .u64 (g*(af .u64 (gt v i))))+carry)).tdiv 1000000000),Hy (i+1))
          )
          )
          )
         ) (
          some ((u,borrow,carry))
         )
    )) (q,0,0,0)) fun r=>r.1.length=q.length/\Dig r.1/\(r.2.1=0\/r.2.1=1)/\(0<=r.2.2/\r.2.2<1000000000)/\(∀m,j+v.length<=m->r.1.getD m 0=q.getD m 0)/\vk r.1 j=vk q j/\vl r.1=vl q-pB j*(g*vl v)+pB (j+v.length)*(r.2.1+r.2.2):=by
 refine ee (fun x:List Int×Int×Int×Int=>∃i:Nat,x.2.2.2=(i:Int)/\i<=v.length/\x.1.length=q.length/\Dig x.1/\(x.2.1=0\/x.2.1=1)/\(0<=x.2.2.1/\x.2.2.1<1000000000)/\(∀m,j+i<=m->x.1.getD m 0=q.getD m 0)/\vk x.1 j=vk q j/\vl x.1=vl q-pB j*(g*vk v i)+pB (j+i)*(x.2.1+x.2.2.1)) (fun x=>v.length-x.2.2.2.toNat) ?_ n (q,0,0,0)
  ⟨0,rfl,by omega,rfl,hu,.inl rfl,by simp,fun m _=>rfl,rfl,by simp[jS]⟩ (by simp;omega)
 rintro again ⟨u,C,ca,x⟩ ⟨i,T,h1,N,E,U,Y,O,I,J⟩ ih;simp only at T N E U Y O I J;subst T;dsimp only;refine Ok.cd (fun h=>?_) (fun h=>?_)
 ·have hi:i<v.length:=by have:=dcT h;omega
  rw[nQ (by omega) (by omega),fa,fa];refine Ok.gd (by rw[bm];simpa using hi) (Ok.gd (by rw[bm];simp;omega) ?_);have Z:=dC hv i;have du:=dC E (i+j);have m1:0<=g*v.getD i 0:=Int.mul_nonneg hg.1 Z.1;have m2:g*v.getD i 0<=999999999*999999999:=Int.mul_le_mul (by omega) (by omega) Z.1 (by omega);rw[aO (n:=v.getD i 0) (by omega) (by omega),aO (n:=g*v.getD i 0) (by omega) (by omega),aO (n:=g*v.getD i 0+ca) (by omega) (by omega)];generalize hs:g*v.getD i 0+ca=s;have D:0<=s:=by omega
  rw[(qi D).1,(qi D).2];have a1:s / 1000000000<1000000000:=by omega
  have e:s=s%1000000000+1000000000*(s / 1000000000):=by omega
  rw[aO (n:=s / 1000000000) (by omega) (by omega),wrap64_in (n:=s%1000000000) (by omega) (by omega),wrap64_in (n:=u.getD (i+j) 0) (by omega) (by omega),wrap64_in (n:=u.getD (i+j) 0-C) (by omega) (by omega),wrap64_in (n:=u.getD (i+j) 0-C-s%1000000000) (by omega) (by omega),kK (by omega),Int.toNat_natCast];have step:∀d z,(0<=d/\d<1000000000)->(z=0\/z=1)->u.getD (i+j) 0-C-s%1000000000=d-1000000000*z->Ok (again (u.set (i+j) d,z,s / 1000000000,((i+1:Nat):Int))) fun r=>r.1.length=q.length/\Dig r.1/\(r.2.1=0\/r.2.1=1)/\(0<=r.2.2/\r.2.2<1000000000)/\(∀m,j+v.length<=m->r.1.getD m 0=q.getD m 0)/\vk r.1 j=vk q j/\vl r.1=vl q-pB j*(g*vl v)+pB (j+v.length)*(r.2.1+r.2.2):=by
   intro d z hd hb R;refine ih _ ⟨i+1,rfl,by omega,by simpa using N,kD E hd,hb,by simp only;omega,?_,?_,?_⟩ (by simp;omega)
   ·intro m hm;simp only;rw[jL (by omega)];exact O m (by omega)
   ·simp only;unfold vk at I ⊢;rw[List.take_set_of_le (by omega)];exact I
   ·simp only;rw[nz (by omega),gk,<-Nat.add_assoc,dE,Nat.add_comm i j,mB,J,mB];rw[Nat.add_comm i j]at R;have e2:u.getD (j+i) 0=d-1000000000*z+C+s%1000000000:=by omega
    rw[e2];have e3:s%1000000000=g*v.getD i 0+ca-1000000000*(s / 1000000000):=by omega
    rw[e3];grind
  refine Ok.cd (fun h=>?_) (fun h=>?_)
  ·have S:=dcT h;rw[wrap64_in (n:=u.getD (i+j) 0-C-s%1000000000+1000000000) (by omega) (by omega),bU (by omega) (by omega)];exact step _ 1 (by omega) (.inr rfl) (by omega)
  ·have S:=dcF h;rw[bU (by omega) (by omega)];exact step _ 0 (by omega) (.inl rfl) (by omega)
 ·have hi:i=v.length:=by have:=dcF h;omega
  subst hi;rw[gV (l:=v) (by omega)]at J;exact aC.2 ⟨N,E,U,Y,O,I,J⟩
theorem F0{n:Nat}(Z:1000<=n){v q:List Int}{j:Nat}(T:Dig v)(hu:Dig q)(lv:v.length<=400)(lu:q.length<=900)(hj:j+v.length<q.length):
  Ok (aV (α:=List Int×Int×Int) (β:=List Int×Int) n (fun again x=>match x with
   | (u, c, i) =>(
               cdO (decide (i<(v.length:Int))) (
                gdO (inR (Hy (i+(j:Int))) u.length) (
                gdO (inR i v.length) (
                cdO (decide ((af .u32 ((af .u32 ((gt u (Hy (i+(j:Int))))+(gt v i)))+c))>=1000000000)) (
                 again (u.set (Hy (i+(j:Int))).toNat (af .u32 ((af .u32 ((af .u32 ((gt u (Hy (i+(j:Int))))+(gt v i)))+c))-1000000000)),1,Hy (i+1))
                ) (
                 again (u.set (Hy (i+(j:Int))).toNat (af .u32 ((af .u32 ((gt u (Hy (i+(j:Int))))+(gt v i)))+c)),0,Hy (i+1))
                )
                )
                )
               ) (
                some ((u,c))
               )
    )) (q,0,0)) fun r=>r.1.length=q.length/\Dig r.1/\(r.2=0\/r.2=1)/\(∀m,j+v.length<=m->r.1.getD m 0=q.getD m 0)/\vk r.1 j=vk q j/\vl r.1=vl q+pB j*vl v-pB (j+v.length)*r.2:=by
 refine ee (fun x:List Int×Int×Int=>∃i:Nat,x.2.2=(i:Int)/\i<=v.length/\x.1.length=q.length/\Dig x.1/\(x.2.1=0\/x.2.1=1)/\(∀m,j+i<=m->x.1.getD m 0=q.getD m 0)/\vk x.1 j=vk q j/\vl x.1=vl q+pB j*vk v i-pB (j+i)*x.2.1) (fun x=>v.length-x.2.2.toNat) ?_ n (q,0,0)
  ⟨0,rfl,by omega,rfl,hu,.inl rfl,fun m _=>rfl,rfl,by simp[jS]⟩ (by simp;omega)
 rintro again ⟨u,c,x⟩ ⟨i,R,h1,I,C,S,J,D,E⟩ U;simp only at R I C S J D E;subst R;dsimp only;refine Ok.cd (fun h=>?_) (fun h=>?_)
 ·have hi:i<v.length:=by have:=dcT h;omega
  rw[nQ (by omega) (by omega),fa,fa];refine Ok.gd (by rw[bm];simp;omega) (Ok.gd (by rw[bm];simpa using hi) ?_);have dv:=dC T i;have du:=dC C (i+j);rw[bU (n:=u.getD (i+j) 0+v.getD i 0) (by omega) (by omega),bU (n:=u.getD (i+j) 0+v.getD i 0+c) (by omega) (by omega),kK (by omega),Int.toNat_natCast];have step:∀d z,(0<=d/\d<1000000000)->(z=0\/z=1)->u.getD (i+j) 0+v.getD i 0+c=d+1000000000*z->Ok (again (u.set (i+j) d,z,((i+1:Nat):Int))) fun r=>r.1.length=q.length/\Dig r.1/\(r.2=0\/r.2=1)/\(∀m,j+v.length<=m->r.1.getD m 0=q.getD m 0)/\vk r.1 j=vk q j/\vl r.1=vl q+pB j*vl v-pB (j+v.length)*r.2:=by
   intro d z Y hc N;refine U _ ⟨i+1,rfl,by omega,by simpa using I,kD C Y,hc,?_,?_,?_⟩ (by simp;omega)
   ·intro m hm;simp only;rw[jL (by omega)];exact J m (by omega)
   ·simp only;unfold vk at D ⊢;rw[List.take_set_of_le (by omega)];exact D
   ·simp only;rw[nz (by omega),gk,<-Nat.add_assoc,dE,Nat.add_comm i j,mB,E,mB];rw[Nat.add_comm i j]at N;have e2:u.getD (j+i) 0=d+1000000000*z-v.getD i 0-c:=by omega
    rw[e2];grind
  refine Ok.cd (fun h=>?_) (fun h=>?_)
  ·have O:=dcT h;rw[bU (by omega) (by omega)];exact step _ 1 (by omega) (.inr rfl) (by omega)
  ·have O:=dcF h;exact step _ 0 (by omega) (.inl rfl) (by omega)
 ·have hi:i=v.length:=by have:=dcF h;omega
  subst hi;rw[gV (l:=v) (by omega)]at E;exact aC.2 ⟨I,C,S,J,D,E⟩
end Go.L

