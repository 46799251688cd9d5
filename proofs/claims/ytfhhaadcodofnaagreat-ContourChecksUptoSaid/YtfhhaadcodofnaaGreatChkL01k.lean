import Derived.Test.YtfhhaadcodofnaaGreatChkL01q
import Derived.Test.YtfhhaadcodofnaaGreatPl6Chks
set_option linter.all false
namespace Go.L
open Go Go.Eng
theorem nw{j k:Nat}(h:j<=4000000000)(h2:k<=4000000000):Ki ((j:Int)+(k:Int))=((j+k:Nat):Int):=by rw[wrap64_in (by omega) (by omega)];omega
theorem yy{p q o c:Int}(hp:0<=p/\p<1000000000)(j:0<=q/\q<1000000000)(m:0<=o/\o<1000000000)(hc:0<=c/\c<1000000000):
  ae .u64 ((ae .u64 ((ae .u64 o)+(ae .u64 ((ae .u64 p)*(ae .u64 q)))))+c)=o+p*q+c/\0<=o+p*q+c/\o+p*q+c<1000000000000000000:=by
 have h1:0<=p*q:=Int.mul_nonneg hp.1 j.1;have h2:p*q<=999999999*999999999:=Int.mul_le_mul (by omega) (by omega) j.1 (by omega);rw[aI (n:=o) (by omega) (by omega),aI (n:=p) (by omega) (by omega),aI (n:=q) (by omega) (by omega),aI (n:=p*q) (by omega) (by omega),aI (n:=o+p*q) (by omega) (by omega),aI (by omega) (by omega)];exact⟨rfl,by omega,by omega⟩
theorem uT{l:List Int}{j:Nat}(h:l.length<=j):l.getD j 0=0:=by simp[List.getD,List.getElem?_eq_none h]
theorem vR{k j:Nat}:(List.replicate k (0:Int)).getD j 0=0:=by
 by_cases h:j<k
 ·simp[List.getD,h]
 ·exact uT (by simpa using h)
theorem yC{n:Nat}{a b:List Int}(hn:1000<=n)(ha:Dig a)(hb:Dig b)(la:a.length<=400)(lb:b.length<=400):Ok (kb n a b) fun r=>Can r/\vl r=vl a*vl b:=by
 unfold kb;rw[nw (by omega) (by omega)];refine Ok.gd (by simp;try omega) (Ok.gd (by simp;try omega) (Ok.gd (by simp;try omega) ?_));refine Ok.bd (R:=fun r=>Dig r/\r.length<=900/\vl r=vl a*vl b) ?_ (fun r h=>Ok.bd (tl hn h.1 h.2.1) fun z hz=>aw.2 ⟨hz.1,hz.2.trans h.2.2⟩);refine eE (fun x:List Int×Int=>∃i:Nat,x.2=(i:Int)/\i<=a.length/\x.1.length=a.length+b.length/\Dig x.1/\(∀j,i+b.length<=j->x.1.getD j 0=0)/\vl x.1=vk a i*vl b) (fun x=>a.length-x.2.toNat) ?_ n _
  ⟨0,rfl,by omega,(by simp;omega),rI _,fun j _=>vR,by simp[jK,vK]⟩ (by simp;omega)
 rintro again ⟨out,x⟩ ⟨i,hx,h4,h5,U,h7,O⟩ ih;simp only at hx h5 U h7 O;subst hx;dsimp only;have da:=cW ha i;refine Ok.cd (fun h=>?_) (fun h=>?_)
 ·have Y:i<a.length:=by simp at h;omega
  refine Ok.gd (by rw[bj];simpa using Y) ?_;rw[dY];refine Ok.bd (R:=fun r=>r.1.length=a.length+b.length/\Dig r.1/\(0<=r.2/\r.2<1000000000)/\(∀j,i+b.length<=j->r.1.getD j 0=0)/\vl r.1+pB (i+b.length)*r.2=vk a i*vl b+pB i*a.getD i 0*vl b) ?_ ?_
  ·refine eE (fun y:List Int×Int×Int=>∃j:Nat,y.2.2=(j:Int)/\j<=b.length/\y.1.length=a.length+b.length/\Dig y.1/\(0<=y.2.1/\y.2.1<1000000000)/\(∀m,i+b.length<=m->y.1.getD m 0=0)/\vl y.1+pB (i+j)*y.2.1=vk a i*vl b+pB i*a.getD i 0*vk b j) (fun y=>b.length-y.2.2.toNat) ?_ n _
    ⟨0,rfl,by omega,h5,U,by simp,h7,by simp[jK,O]⟩ (by simp;omega)
   rintro T ⟨q,c,y⟩ ⟨j,hy,k4,E,C,I,D,J⟩ a1;simp only at hy E C I D J;subst hy;dsimp only;have db:=cW hb j;refine Ok.cd (fun h=>?_) (fun h=>?_)
   ·have hj:j<b.length:=by simp at h;omega
    refine Ok.gd (by rw[bj];simpa using hj) ?_;rw[nw (by omega) (by omega)];refine Ok.gd (by rw[bj];simp;omega) ?_;rw[dY,dY];have N:=cW C (i+j);obtain⟨e1,e2,e3⟩:=yy da db N I;rw[e1];generalize hs:q.getD (i+j) 0+a.getD i 0*b.getD j 0+c=s at e1 e2 e3;have t1:s.tdiv 1000000000=s / 1000000000:=Int.tdiv_eq_ediv_of_nonneg e2;have t2:s.tmod 1000000000=s%1000000000:=Int.tmod_eq_emod_of_nonneg e2;rw[t1,t2,bt (by omega) (by omega),aI (by omega) (by omega),kp (by omega),Int.toNat_natCast];refine a1 _ ⟨j+1,rfl,by omega,by simpa using E,ku C (by omega),by simp only;omega,?_,?_⟩ (by simp;omega)
    ·intro m hm;simp only;rw[ju (by omega)];exact D m hm
    ·simp only;rw[np (by omega),gp,<-Nat.add_assoc,df,mQ];rw[mQ]at J;have:s=s%1000000000+1000000000*(s / 1000000000):=by omega
     grind
   ·have hj:j=b.length:=by simp at h;omega
    subst hj;rw[ia (l:=b) (by omega)]at J;exact aw.2 ⟨E,C,I,D,J⟩
  ·rintro⟨q,c⟩ ⟨E,C,I,D,J⟩;simp only at E C I D J;dsimp only;rw[nw (by omega) (by omega)];refine Ok.gd (by rw[bj];simp;omega) ?_;rw[bt (by omega) (by omega),kp (by omega),Int.toNat_natCast];refine ih _ ⟨i+1,rfl,by omega,by simpa using E,ku C I,?_,?_⟩ (by simp;omega)
   ·intro m hm;simp only;rw[ju (by omega)];exact D m (by omega)
   ·simp only;rw[np (by omega),gp,D _ (by omega)];grind
 ·have Y:i=a.length:=by simp at h;omega
  subst Y;rw[ia (l:=a) (by omega)]at O;exact aw.2 ⟨U,by omega,O⟩
theorem qQ{n:Nat}{x y:ai}{v w:Int}(m:1000<=n)(hx:isI x.Negative x.Groups v)(j:isI y.Negative y.Groups w)(C:x.Groups.length<=400)(D:y.Groups.length<=400):Ok (ec n x y) fun z=>isI z.Negative z.Groups (v*w):=by
 unfold ec;refine Ok.bde (ka m (by omega) hx) (Ok.bde (ka m (by omega) j) ?_);refine Ok.bd (yC m hx.1.dig j.1.dig C D) ?_;rintro r ⟨h1,h2⟩;have hlen:r.length<=900:=by
  have:=mM h1 (k:=x.Groups.length+y.Groups.length) (by
   have E:=iZ hx.1.dig;have a2:=iZ j.1.dig;have a3:=bn hx.1.dig;have a4:=bn j.1.dig;rw[h2,mQ];have I:=iO x.Groups.length;have:vl x.Groups*vl y.Groups<=pB x.Groups.length*vl y.Groups:=mrT (by omega) a4;have:pB x.Groups.length*vl y.Groups<pB x.Groups.length*pB y.Groups.length:=Int.mul_lt_mul_of_pos_left a2 (by omega);omega)
  omega
 refine Ok.bd (eM m _ h1.dig hlen) ?_;intro z q;refine aw.2 ?_;rw[h2]at q;have:v*w=if (x.Negative !=y.Negative)=true then-(vl x.Groups*vl y.Groups)else vl x.Groups*vl y.Groups:=by
  rw[hx.2.2,j.2.2];cases x.Negative<;>cases y.Negative<;>simp<;>grind
 rw[this];exact q
end Go.L


set_option linter.all false
namespace Go.L
open Go Go.Eng
theorem pU{m d:Int}(h:0<=m):m.tdiv d=m / d/\m.tmod d=m%d:=⟨Int.tdiv_eq_ediv_of_nonneg h,Int.tmod_eq_emod_of_nonneg h⟩
theorem Fq{n:Nat}(hn:1000<=n){P W V wl x0 x1 x2 vw v1 v2 g0 r0:Int}(k:KN P W V wl x0 x1 x2 vw v1 v2)(z:g0=(x1+1000000000*x2) / v1)(C:r0=(x1+1000000000*x2)%v1){i1 i2 l1 l2:Nat}(T:i1<l1)(U:i2<l2):
  Ok (aP (α:=Int×Int) (β:=Int) n (fun again x=>match x with
   |(j,rest)=>(
     cdO (decide (j>=1000000000)) (
      cdO (decide ((ae .u64 (rest+v1))>=1000000000)) (
       some (ae .u64 (j-1))
      ) (
       again (ae .u64 (j-1),ae .u64 (rest+v1))
      )
     ) (
      gdO (inR (i1:Int) l1) (
      gdO (inR (i2:Int) l2) (
      cdO (decide ((ae .u64 (j*v2))>(ae .u64 ((ae .u64 (rest*1000000000))+x0)))) (
       cdO (decide ((ae .u64 (rest+v1))>=1000000000)) (
        some (ae .u64 (j-1))
       ) (
        again (ae .u64 (j-1),ae .u64 (rest+v1))
       )
      ) (
       some (j)
      )
      )
      )
     )
    )) (g0,r0)) fun g=>0<=g/\g<1000000000/\W<(g+1)*V/\(1<=g->(g-1)*V<=W):=by
 have b1:=k.v1;have m:=k.v2;have b3:=k.x0;have b4:=k.x1;have b5:=k.x2;have b0:=k.top;have Y:=Int.emod_add_mul_ediv (x1+1000000000*x2) v1;have D:=Int.emod_lt_of_pos (x1+1000000000*x2) (by omega:0<v1);have E:=Int.emod_nonneg (x1+1000000000*x2) (by omega:v1≠0);rw[<-z,<-C]at Y;rw[<-C]at D E;have I:0<=g0:=by rw[z];exact Int.ediv_nonneg (by omega) (by omega)
 have a7:v1*g0=g0*v1:=Int.mul_comm _ _;have q:0<=V:=by
  have h1:=k.v;have h2:=k.vw;have h3:0<=P*(v2+1000000000*v1):=Int.mul_nonneg (by have:=k.p;omega) (by omega);omega
 have dec:∀g r:Int,0<=g->g<=1000000001->0<=r->r<1000000000->x1+1000000000*x2=g*v1+r->(1000000000<=g\/r*1000000000+x0<g*v2)->W<g*V:=by
  intro g r h1 h2 h3 h4 h5 J;rcases J with J|J
  ·have:1000000000*V<=g*V:=mrT J q;have:=k.lt;omega
  ·refine k.less h1 ?_;have:g*(v2+1000000000*v1)=g*v2+1000000000*(g*v1):=by grind
   omega
 have stop:∀g r:Int,0<=g->g<1000000000->x1+1000000000*x2=g*v1+r->g*v2<=r*1000000000+x0->(1<=g->(g-1)*V<=W):=by
  intro g r h1 h2 h5 J h7;refine k.more h7 (by omega) ?_;have:g*(v2+1000000000*v1)=g*v2+1000000000*(g*v1):=by grind
  omega
 have a8:g0<=1000000001:=by
  by_cases h:g0<=1000000001
  ·exact h
  ·have:1000000002*v1<=g0*v1:=mrT (by omega) (by omega);omega
 refine eE (fun x:Int×Int=>0<=x.1/\x.1<=1000000001/\0<=x.2/\x.2<1000000000/\x1+1000000000*x2=x.1*v1+x.2/\W<(x.1+1)*V) (fun x=>((1000000000-x.2) / 500000000).toNat) ?_ n (g0,r0) ⟨I,a8,E,(by show r0<1000000000;omega),(by show _=g0*v1+r0;omega),(show W<(g0+1)*V from k.first D I (by omega))⟩ (by simp only;omega);rintro again ⟨g,r⟩ ⟨N,a2,a3,a4,a5,a6⟩ ih;simp only at N a2 a3 a4 a5 a6;have next:(1000000000<=g\/r*1000000000+x0<g*v2)->Ok (cdO (decide ((ae .u64 (r+v1))>=1000000000)) (some (ae .u64 (g-1))) (again (ae .u64 (g-1),ae .u64 (r+v1)))) fun g=>0<=g/\g<1000000000/\W<(g+1)*V/\(1<=g->(g-1)*V<=W):=by
  intro h;have hW:=dec g r N a2 a3 a4 a5 h;have b6:1<=g:=by
   rcases h with h|h
   ·omega
   ·by_cases h0:g=0
    ·rw[h0]at h;omega
    ·omega
  have e5:x1+1000000000*x2=(g-1)*v1+(r+v1):=by rw[a5];grind
  rw[aI (n:=r+v1) (by omega) (by omega),aI (by omega) (by omega)];refine Ok.cd (fun h=>?_) (fun h=>?_)
  ·have hb:=dcT h;have O:g-1<1000000000:=by
    by_cases hh:g-1<1000000000
    ·exact hh
    ·have:1000000000*v1<=(g-1)*v1:=mrT (by omega) (by omega);omega
   refine aw.2 ⟨by omega,O,by rw[(by omega:g-1+1=g)];exact hW,stop (g-1) (r+v1) (by omega) O e5 ?_⟩;have:(g-1)*v2<=999999999*999999999:=Int.mul_le_mul (by omega) (by omega) m.1 (by omega);omega
  ·have hb:=dcF h;exact ih _ ⟨by simp only;omega,by simp only;omega,by simp only;omega,by simp only;omega,e5,by simp only;rw[(by omega:g-1+1=g)];exact hW⟩ (by simp only;omega)
 refine Ok.cd (fun h=>?_) (fun h=>?_)
 ·exact next (.inl (dcT h))
 ·have hg:=dcF h;refine Ok.gd (by rw[bj];simpa using T) (Ok.gd (by rw[bj];simpa using U) ?_);have m1:0<=g*v2:=Int.mul_nonneg N m.1;have m2:g*v2<=999999999*999999999:=Int.mul_le_mul (by omega) (by omega) m.1 (by omega);rw[aI (n:=g*v2) (by omega) (by omega),aI (n:=r*1000000000) (by omega) (by omega),aI (n:=r*1000000000+x0) (by omega) (by omega)];refine Ok.cd (fun h=>?_) (fun h=>?_)
  ·exact next (.inr (dcT h))
  ·have:=dcF h;exact aw.2 ⟨N,by omega,a6,stop g r N (by omega) a5 (by omega)⟩
theorem Ig{n:Nat}(hn:1000<=n){v q:List Int}{g:Int}{j:Nat}(hv:Dig v)(hu:Dig q)(hg:0<=g/\g<1000000000)(lv:v.length<=400)(lu:q.length<=900)(hj:j+v.length<q.length):
  Ok (aP (α:=List Int×Int×Int×Int) (β:=List Int×Int×Int) n (fun again x=>match x with
   | (u, borrow,carry,i)=>(
         cdO (decide (i<(v.length:Int))) (
          gdO (inR i v.length) (
          gdO (inR (Ki (i+(j:Int))) u.length) (
          cdO (decide ((Ki ((Ki ((Ki (gt u (Ki (i+(j:Int)))))-borrow))-(Ki ((ae .u64 ((ae .u64 (g*(ae .u64 (gt v i))))+carry)).tmod 1000000000))))<0)) (
           again (u.set (Ki (i+(j:Int))).toNat (ae .u32 (Ki ((Ki ((Ki ((Ki (gt u (Ki (i+(j:Int)))))-borrow))-(Ki ((ae .u64 ((ae .u64 (g*(ae .u64 (gt v i))))+carry)).tmod 1000000000))))+1000000000))),1,ae .u64 ((ae .u64 ((ae .u64 (g*(ae .u64 (gt v i))))+carry)).tdiv 1000000000),Ki (i+1))
          ) (
           again (u.set (Ki (i+(j:Int))).toNat (ae .u32 (Ki ((Ki ((Ki (gt u (Ki (i+(j:Int)))))-borrow))-(Ki ((ae .u64 ((ae .u64 (g*(ae .u64 (gt v i))))+carry)).tmod 1000000000))))),0,ae .u64 ((ae .u64 ((ae .u64 (g*(ae .u64 (gt v i))))+carry)).tdiv 1000000000),Ki (i+1))
          )
          )
          )
         ) (
          some ((u,borrow,carry))
         )
    )) (q,0,0,0)) fun r=>r.1.length=q.length/\Dig r.1/\(r.2.1=0\/r.2.1=1)/\(0<=r.2.2/\r.2.2<1000000000)/\(∀m,j+v.length<=m->r.1.getD m 0=q.getD m 0)/\vk r.1 j=vk q j/\vl r.1=vl q-pB j*(g*vl v)+pB (j+v.length)*(r.2.1+r.2.2):=by
 refine eE (fun x:List Int×Int×Int×Int=>∃i:Nat,x.2.2.2=(i:Int)/\i<=v.length/\x.1.length=q.length/\Dig x.1/\(x.2.1=0\/x.2.1=1)/\(0<=x.2.2.1/\x.2.2.1<1000000000)/\(∀m,j+i<=m->x.1.getD m 0=q.getD m 0)/\vk x.1 j=vk q j/\vl x.1=vl q-pB j*(g*vk v i)+pB (j+i)*(x.2.1+x.2.2.1)) (fun x=>v.length-x.2.2.2.toNat) ?_ n (q,0,0,0)
  ⟨0,rfl,by omega,rfl,hu,.inl rfl,by simp,fun m _=>rfl,rfl,by simp[jK]⟩ (by simp;omega)
 rintro again ⟨u,C,ca,x⟩ ⟨i,hx,h1,h2,E,Y,h5,N,I,J⟩ ih;simp only at hx h2 E Y h5 N I J;subst hx;dsimp only;refine Ok.cd (fun h=>?_) (fun h=>?_)
 ·have O:i<v.length:=by have:=dcT h;omega
  rw[nw (by omega) (by omega),dY,dY];refine Ok.gd (by rw[bj];simpa using O) (Ok.gd (by rw[bj];simp;omega) ?_);have dv:=cW hv i;have du:=cW E (i+j);have m1:0<=g*v.getD i 0:=Int.mul_nonneg hg.1 dv.1;have m2:g*v.getD i 0<=999999999*999999999:=Int.mul_le_mul (by omega) (by omega) dv.1 (by omega);rw[aI (n:=v.getD i 0) (by omega) (by omega),aI (n:=g*v.getD i 0) (by omega) (by omega),aI (n:=g*v.getD i 0+ca) (by omega) (by omega)];generalize hs:g*v.getD i 0+ca=s;have D:0<=s:=by omega
  rw[(pU D).1,(pU D).2];have a1:s / 1000000000<1000000000:=by omega
  have e:s=s%1000000000+1000000000*(s / 1000000000):=by omega
  rw[aI (n:=s / 1000000000) (by omega) (by omega),wrap64_in (n:=s%1000000000) (by omega) (by omega),wrap64_in (n:=u.getD (i+j) 0) (by omega) (by omega),wrap64_in (n:=u.getD (i+j) 0-C) (by omega) (by omega),wrap64_in (n:=u.getD (i+j) 0-C-s%1000000000) (by omega) (by omega),kp (by omega),Int.toNat_natCast];have step:∀d z,(0<=d/\d<1000000000)->(z=0\/z=1)->u.getD (i+j) 0-C-s%1000000000=d-1000000000*z->Ok (again (u.set (i+j) d,z,s / 1000000000,((i+1:Nat):Int))) fun r=>r.1.length=q.length/\Dig r.1/\(r.2.1=0\/r.2.1=1)/\(0<=r.2.2/\r.2.2<1000000000)/\(∀m,j+v.length<=m->r.1.getD m 0=q.getD m 0)/\vk r.1 j=vk q j/\vl r.1=vl q-pB j*(g*vl v)+pB (j+v.length)*(r.2.1+r.2.2):=by
   intro d z hd hb T;refine ih _ ⟨i+1,rfl,by omega,by simpa using h2,ku E hd,hb,by simp only;omega,?_,?_,?_⟩ (by simp;omega)
   ·intro m hm;simp only;rw[ju (by omega)];exact N m (by omega)
   ·simp only;unfold vk at I ⊢;rw[List.take_set_of_le (by omega)];exact I
   ·simp only;rw[np (by omega),gp,<-Nat.add_assoc,df,Nat.add_comm i j,mQ,J,mQ];rw[Nat.add_comm i j]at T;have e2:u.getD (j+i) 0=d-1000000000*z+C+s%1000000000:=by omega
    rw[e2];have e3:s%1000000000=g*v.getD i 0+ca-1000000000*(s / 1000000000):=by omega
    rw[e3];grind
  refine Ok.cd (fun h=>?_) (fun h=>?_)
  ·have U:=dcT h;rw[wrap64_in (n:=u.getD (i+j) 0-C-s%1000000000+1000000000) (by omega) (by omega),bt (by omega) (by omega)];exact step _ 1 (by omega) (.inr rfl) (by omega)
  ·have U:=dcF h;rw[bt (by omega) (by omega)];exact step _ 0 (by omega) (.inl rfl) (by omega)
 ·have O:i=v.length:=by have:=dcF h;omega
  subst O;rw[ia (l:=v) (by omega)]at J;exact aw.2 ⟨h2,E,Y,h5,N,I,J⟩
theorem Iv{n:Nat}(hn:1000<=n){v q:List Int}{j:Nat}(U:Dig v)(hu:Dig q)(lv:v.length<=400)(lu:q.length<=900)(hj:j+v.length<q.length):
  Ok (aP (α:=List Int×Int×Int) (β:=List Int×Int) n (fun again x=>match x with
   | (u, c, i) =>(
               cdO (decide (i<(v.length:Int))) (
                gdO (inR (Ki (i+(j:Int))) u.length) (
                gdO (inR i v.length) (
                cdO (decide ((ae .u32 ((ae .u32 ((gt u (Ki (i+(j:Int))))+(gt v i)))+c))>=1000000000)) (
                 again (u.set (Ki (i+(j:Int))).toNat (ae .u32 ((ae .u32 ((ae .u32 ((gt u (Ki (i+(j:Int))))+(gt v i)))+c))-1000000000)),1,Ki (i+1))
                ) (
                 again (u.set (Ki (i+(j:Int))).toNat (ae .u32 ((ae .u32 ((gt u (Ki (i+(j:Int))))+(gt v i)))+c)),0,Ki (i+1))
                )
                )
                )
               ) (
                some ((u,c))
               )
    )) (q,0,0)) fun r=>r.1.length=q.length/\Dig r.1/\(r.2=0\/r.2=1)/\(∀m,j+v.length<=m->r.1.getD m 0=q.getD m 0)/\vk r.1 j=vk q j/\vl r.1=vl q+pB j*vl v-pB (j+v.length)*r.2:=by
 refine eE (fun x:List Int×Int×Int=>∃i:Nat,x.2.2=(i:Int)/\i<=v.length/\x.1.length=q.length/\Dig x.1/\(x.2.1=0\/x.2.1=1)/\(∀m,j+i<=m->x.1.getD m 0=q.getD m 0)/\vk x.1 j=vk q j/\vl x.1=vl q+pB j*vk v i-pB (j+i)*x.2.1) (fun x=>v.length-x.2.2.toNat) ?_ n (q,0,0)
  ⟨0,rfl,by omega,rfl,hu,.inl rfl,fun m _=>rfl,rfl,by simp[jK]⟩ (by simp;omega)
 rintro again ⟨u,c,x⟩ ⟨i,hx,h1,h2,C,T,I,D,E⟩ Y;simp only at hx h2 C T I D E;subst hx;dsimp only;refine Ok.cd (fun h=>?_) (fun h=>?_)
 ·have J:i<v.length:=by have:=dcT h;omega
  rw[nw (by omega) (by omega),dY,dY];refine Ok.gd (by rw[bj];simp;omega) (Ok.gd (by rw[bj];simpa using J) ?_);have dv:=cW U i;have du:=cW C (i+j);rw[bt (n:=u.getD (i+j) 0+v.getD i 0) (by omega) (by omega),bt (n:=u.getD (i+j) 0+v.getD i 0+c) (by omega) (by omega),kp (by omega),Int.toNat_natCast];have step:∀d z,(0<=d/\d<1000000000)->(z=0\/z=1)->u.getD (i+j) 0+v.getD i 0+c=d+1000000000*z->Ok (again (u.set (i+j) d,z,((i+1:Nat):Int))) fun r=>r.1.length=q.length/\Dig r.1/\(r.2=0\/r.2=1)/\(∀m,j+v.length<=m->r.1.getD m 0=q.getD m 0)/\vk r.1 j=vk q j/\vl r.1=vl q+pB j*vl v-pB (j+v.length)*r.2:=by
   intro d z hd hc N;refine Y _ ⟨i+1,rfl,by omega,by simpa using h2,ku C hd,hc,?_,?_,?_⟩ (by simp;omega)
   ·intro m hm;simp only;rw[ju (by omega)];exact I m (by omega)
   ·simp only;unfold vk at D ⊢;rw[List.take_set_of_le (by omega)];exact D
   ·simp only;rw[np (by omega),gp,<-Nat.add_assoc,df,Nat.add_comm i j,mQ,E,mQ];rw[Nat.add_comm i j]at N;have e2:u.getD (j+i) 0=d+1000000000*z-v.getD i 0-c:=by omega
    rw[e2];grind
  refine Ok.cd (fun h=>?_) (fun h=>?_)
  ·have O:=dcT h;rw[bt (by omega) (by omega)];exact step _ 1 (by omega) (.inr rfl) (by omega)
  ·have O:=dcF h;exact step _ 0 (by omega) (.inl rfl) (by omega)
 ·have J:i=v.length:=by have:=dcF h;omega
  subst J;rw[ia (l:=v) (by omega)]at E;exact aw.2 ⟨h2,C,T,I,D,E⟩
end Go.L

