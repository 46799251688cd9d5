import Derived.Test.YtlhnaccgnegjdaaGreatNesL01q
import Derived.Test.YtlhnaccgnegjdaaGreatPl6Ness
set_option linter.all false
namespace Go.L
open Go Go.Eng
theorem nk{j k:Nat}(h:j<=4000000000)(h2:k<=4000000000):Jy ((j:Int)+(k:Int))=((j+k:Nat):Int):=by rw[wrap64_in (by omega) (by omega)];omega
theorem yc{p q o c:Int}(hp:0<=p/\p<1000000000)(j:0<=q/\q<1000000000)(m:0<=o/\o<1000000000)(hc:0<=c/\c<1000000000):
  aa .u64 ((aa .u64 ((aa .u64 o)+(aa .u64 ((aa .u64 p)*(aa .u64 q)))))+c)=o+p*q+c/\0<=o+p*q+c/\o+p*q+c<1000000000000000000:=by
 have h1:0<=p*q:=Int.mul_nonneg hp.1 j.1;have h2:p*q<=999999999*999999999:=Int.mul_le_mul (by omega) (by omega) j.1 (by omega);rw[aF (n:=o) (by omega) (by omega),aF (n:=p) (by omega) (by omega),aF (n:=q) (by omega) (by omega),aF (n:=p*q) (by omega) (by omega),aF (n:=o+p*q) (by omega) (by omega),aF (by omega) (by omega)];exact⟨rfl,by omega,by omega⟩
theorem uI{l:List Int}{j:Nat}(h:l.length<=j):l.getD j 0=0:=by simp[List.getD,List.getElem?_eq_none h]
theorem wc{k j:Nat}:(List.replicate k (0:Int)).getD j 0=0:=by
 by_cases h:j<k
 ·simp[List.getD,h]
 ·exact uI (by simpa using h)
theorem yg{n:Nat}{a b:List Int}(hn:1000<=n)(ha:Dig a)(hb:Dig b)(la:a.length<=400)(lb:b.length<=400):Ok (jH n a b) fun r=>Can r/\vl r=vl a*vl b:=by
 unfold jH;rw[nk (by omega) (by omega)];refine Ok.gd (by simp;try omega) (Ok.gd (by simp;try omega) (Ok.gd (by simp;try omega) ?_));refine Ok.bd (R:=fun r=>Dig r/\r.length<=900/\vl r=vl a*vl b) ?_ (fun r h=>Ok.bd (sI hn h.1 h.2.1) fun z hz=>aw.2 ⟨hz.1,hz.2.trans h.2.2⟩);refine dD (fun x:List Int×Int=>∃i:Nat,x.2=(i:Int)/\i<=a.length/\x.1.length=a.length+b.length/\Dig x.1/\(∀j,i+b.length<=j->x.1.getD j 0=0)/\vl x.1=vk a i*vl b) (fun x=>a.length-x.2.toNat) ?_ n _
  ⟨0,rfl,by omega,(by simp;omega),qE _,fun j _=>wc,by simp[jn,vU]⟩ (by simp;omega)
 rintro again ⟨out,x⟩ ⟨i,hx,h4,h5,O,h7,M⟩ ih;simp only at hx h5 O h7 M;subst hx;dsimp only;have da:=cB ha i;refine Ok.cd (fun h=>?_) (fun h=>?_)
 ·have T:i<a.length:=by simp at h;omega
  refine Ok.gd (by rw[aR];simpa using T) ?_;rw[dY];refine Ok.bd (R:=fun r=>r.1.length=a.length+b.length/\Dig r.1/\(0<=r.2/\r.2<1000000000)/\(∀j,i+b.length<=j->r.1.getD j 0=0)/\vl r.1+pB (i+b.length)*r.2=vk a i*vl b+pB i*a.getD i 0*vl b) ?_ ?_
  ·refine dD (fun y:List Int×Int×Int=>∃j:Nat,y.2.2=(j:Int)/\j<=b.length/\y.1.length=a.length+b.length/\Dig y.1/\(0<=y.2.1/\y.2.1<1000000000)/\(∀m,i+b.length<=m->y.1.getD m 0=0)/\vl y.1+pB (i+j)*y.2.1=vk a i*vl b+pB i*a.getD i 0*vk b j) (fun y=>b.length-y.2.2.toNat) ?_ n _
    ⟨0,rfl,by omega,h5,O,by simp,h7,by simp[jn,M]⟩ (by simp;omega)
   rintro N ⟨p,c,y⟩ ⟨j,hy,k4,D,q,E,C,I⟩ U;simp only at hy D q E C I;subst hy;dsimp only;have db:=cB hb j;refine Ok.cd (fun h=>?_) (fun h=>?_)
   ·have Y:j<b.length:=by simp at h;omega
    refine Ok.gd (by rw[aR];simpa using Y) ?_;rw[nk (by omega) (by omega)];refine Ok.gd (by rw[aR];simp;omega) ?_;rw[dY,dY];have J:=cB q (i+j);obtain⟨e1,e2,e3⟩:=yc da db J E;rw[e1];generalize hs:p.getD (i+j) 0+a.getD i 0*b.getD j 0+c=s at e1 e2 e3;have t1:s.tdiv 1000000000=s / 1000000000:=Int.tdiv_eq_ediv_of_nonneg e2;have t2:s.tmod 1000000000=s%1000000000:=Int.tmod_eq_emod_of_nonneg e2;rw[t1,t2,bf (by omega) (by omega),aF (by omega) (by omega),jR (by omega),Int.toNat_natCast];refine U _ ⟨j+1,rfl,by omega,by simpa using D,jS q (by omega),by simp only;omega,?_,?_⟩ (by simp;omega)
    ·intro m hm;simp only;rw[iY (by omega)];exact C m hm
    ·simp only;rw[mY (by omega),fC,<-Nat.add_assoc,cE,mr];rw[mr]at I;have:s=s%1000000000+1000000000*(s / 1000000000):=by omega
     grind
   ·have Y:j=b.length:=by simp at h;omega
    subst Y;rw[gp (l:=b) (by omega)]at I;exact aw.2 ⟨D,q,E,C,I⟩
  ·rintro⟨p,c⟩ ⟨D,q,E,C,I⟩;simp only at D q E C I;dsimp only;rw[nk (by omega) (by omega)];refine Ok.gd (by rw[aR];simp;omega) ?_;rw[bf (by omega) (by omega),jR (by omega),Int.toNat_natCast];refine ih _ ⟨i+1,rfl,by omega,by simpa using D,jS q E,?_,?_⟩ (by simp;omega)
   ·intro m hm;simp only;rw[iY (by omega)];exact C m (by omega)
   ·simp only;rw[mY (by omega),fC,C _ (by omega)];grind
 ·have T:i=a.length:=by simp at h;omega
  subst T;rw[gp (l:=a) (by omega)]at M;exact aw.2 ⟨O,by omega,M⟩
theorem mA{n:Nat}{x y:ah}{v w:Int}(m:1000<=n)(hx:isI x.Negative x.Groups v)(j:isI y.Negative y.Groups w)(q:x.Groups.length<=400)(C:y.Groups.length<=400):Ok (dI n x y) fun z=>isI z.Negative z.Groups (v*w):=by
 unfold dI;refine Ok.bde (im m (by omega) hx) (Ok.bde (im m (by omega) j) ?_);refine Ok.bd (yg m hx.1.dig j.1.dig q C) ?_;rintro r ⟨h1,h2⟩;have hlen:r.length<=900:=by
  have:=lf h1 (k:=x.Groups.length+y.Groups.length) (by
   have I:=gP hx.1.dig;have D:=gP j.1.dig;have J:=ba hx.1.dig;have E:=ba j.1.dig;rw[h2,mr];have M:=gF x.Groups.length;have:vl x.Groups*vl y.Groups<=pB x.Groups.length*vl y.Groups:=mrT (by omega) E;have:pB x.Groups.length*vl y.Groups<pB x.Groups.length*pB y.Groups.length:=Int.mul_lt_mul_of_pos_left D (by omega);omega)
  omega
 refine Ok.bd (dy m _ h1.dig hlen) ?_;intro z p;refine aw.2 ?_;rw[h2]at p;have:v*w=if (x.Negative !=y.Negative)=true then-(vl x.Groups*vl y.Groups)else vl x.Groups*vl y.Groups:=by
  rw[hx.2.2,j.2.2];cases x.Negative<;>cases y.Negative<;>simp<;>grind
 rw[this];exact p
theorem HR{n:Nat}{p q:Bool}{a b:List Int}{v w:Int}(C:1000<=n)(hx:isI p a v)(j:isI q b w)(I:a.length<=400)(J:b.length<=400):Ok (nH n p a q b) fun z=>isI z.Negative z.Groups (v+w):=by
 unfold nH;have N:∀{r:List Int},Can r->vl r<=vl a+vl b->r.length<=900:=by
  intro r O T;have:=lf O (k:=401) (by
   have U:=gP hx.1.dig;have Y:=gP j.1.dig;have p1:=iq I;have p2:=iq J;have p3:pB 401=1000000000*pB 400:=cE 400;have:=gF 400;omega)
  omega
 have pa:=ba hx.1.dig;have pb:=ba j.1.dig;refine Ok.cd (fun h=>?_) (fun h=>?_)
 ·have m:p=q:=by simpa using h
  subst m;refine Ok.bd (xc C hx.1.dig j.1.dig I J) ?_;rintro r ⟨h1,h2⟩;refine Ok.bd (dy C _ h1.dig (N h1 (by omega))) fun z D=>aw.2 ?_
  have:v+w=if p=true then-vl r else vl r:=by rw[hx.2.2,j.2.2,h2];cases p<;>simp<;>omega
  rw[this];exact D
 ·rw[mT hx.1 j.1 I J];show Ok (cdO _ _ _) _;have m:p=!q:=by cases p<;>cases q<;>simp at h ⊢
  refine Ok.cd (fun h=>?_) (fun h=>?_)
  ·have hle:vl b<=vl a:=by
    by_cases E:vl a-vl b<0
    ·rw[lB E]at h;simp at h
    ·omega
   have hlen:b.length<=a.length:=by
    by_cases E:a.length<b.length
    ·have:=ck hx.1.dig j.1 E;omega
    ·omega
   refine Ok.bd (nG C hx.1.dig j.1.dig I hlen hle) ?_;rintro r ⟨h1,h2⟩;refine Ok.bd (dy C _ h1.dig (N h1 (by omega))) fun z D=>aw.2 ?_
   have:v+w=if p=true then-vl r else vl r:=by rw[hx.2.2,j.2.2,h2,m];cases q<;>simp<;>omega
   rw[this];exact D
  ·have hle:vl a<vl b:=by
    rcases cR (vl a-vl b)with⟨g1,M⟩|⟨g1,M⟩|⟨g1,M⟩
    ·omega
    ·rw[M]at h;simp at h
    ·rw[M]at h;simp at h
   have hlen:a.length<=b.length:=by
    by_cases E:b.length<a.length
    ·have:=ck j.1.dig hx.1 E;omega
    ·omega
   refine Ok.bd (nG C j.1.dig hx.1.dig J hlen (by omega)) ?_;rintro r ⟨h1,h2⟩;refine Ok.bd (dy C _ h1.dig (N h1 (by omega))) fun z D=>aw.2 ?_
   have:v+w=if q=true then-vl r else vl r:=by rw[hx.2.2,j.2.2,h2,m];cases q<;>simp<;>omega
   rw[this];exact D
theorem Am{n:Nat}{x y:ah}{v w:Int}(j:1000<=n)(hx:isI x.Negative x.Groups v)(m:isI y.Negative y.Groups w)(p:x.Groups.length<=400)(q:y.Groups.length<=400):Ok (nD n x y) fun z=>isI z.Negative z.Groups (v+w):=by
 unfold nD;refine Ok.bde (im j (by omega) hx) (Ok.bde (im j (by omega) m) ?_);exact Ok.bd (HR j hx m p q) fun z C=>aw.2 C
end Go.L


set_option linter.all false
namespace Go.L
open Go Go.Eng
theorem pN{m d:Int}(h:0<=m):m.tdiv d=m / d/\m.tmod d=m%d:=⟨Int.tdiv_eq_ediv_of_nonneg h,Int.tmod_eq_emod_of_nonneg h⟩
theorem EN{n:Nat}(hn:1000<=n){P W V wl x0 x1 x2 vw v1 v2 m r0:Int}(k:KN P W V wl x0 x1 x2 vw v1 v2)(C:m=(x1+1000000000*x2) / v1)(D:r0=(x1+1000000000*x2)%v1){i1 i2 l1 l2:Nat}(U:i1<l1)(Y:i2<l2):
  Ok (aJ (α:=Int×Int) (β:=Int) n (fun again x=>match x with
   |(j,rest)=>(
     cdO (decide (j>=1000000000)) (
      cdO (decide ((aa .u64 (rest+v1))>=1000000000)) (
       some (aa .u64 (j-1))
      ) (
       again (aa .u64 (j-1),aa .u64 (rest+v1))
      )
     ) (
      gdO (inR (i1:Int) l1) (
      gdO (inR (i2:Int) l2) (
      cdO (decide ((aa .u64 (j*v2))>(aa .u64 ((aa .u64 (rest*1000000000))+x0)))) (
       cdO (decide ((aa .u64 (rest+v1))>=1000000000)) (
        some (aa .u64 (j-1))
       ) (
        again (aa .u64 (j-1),aa .u64 (rest+v1))
       )
      ) (
       some (j)
      )
      )
      )
     )
    )) (m,r0)) fun g=>0<=g/\g<1000000000/\W<(g+1)*V/\(1<=g->(g-1)*V<=W):=by
 have b0:=k.v1;have q:=k.v2;have b1:=k.x0;have b3:=k.x1;have b4:=k.x2;have a9:=k.top;have a0:=Int.emod_add_mul_ediv (x1+1000000000*x2) v1;have E:=Int.emod_lt_of_pos (x1+1000000000*x2) (by omega:0<v1);have I:=Int.emod_nonneg (x1+1000000000*x2) (by omega:v1≠0);rw[<-C,<-D]at a0;rw[<-D]at E I;have J:0<=m:=by rw[C];exact Int.ediv_nonneg (by omega) (by omega)
 have a7:v1*m=m*v1:=Int.mul_comm _ _;have z:0<=V:=by
  have h1:=k.v;have h2:=k.vw;have h3:0<=P*(v2+1000000000*v1):=Int.mul_nonneg (by have:=k.p;omega) (by omega);omega
 have dec:∀g r:Int,0<=g->g<=1000000001->0<=r->r<1000000000->x1+1000000000*x2=g*v1+r->(1000000000<=g\/r*1000000000+x0<g*v2)->W<g*V:=by
  intro g r h1 h2 h3 h4 h5 M;rcases M with M|M
  ·have:1000000000*V<=g*V:=mrT M z;have:=k.lt;omega
  ·refine k.less h1 ?_;have:g*(v2+1000000000*v1)=g*v2+1000000000*(g*v1):=by grind
   omega
 have stop:∀g r:Int,0<=g->g<1000000000->x1+1000000000*x2=g*v1+r->g*v2<=r*1000000000+x0->(1<=g->(g-1)*V<=W):=by
  intro g r h1 h2 h5 M h7;refine k.more h7 (by omega) ?_;have:g*(v2+1000000000*v1)=g*v2+1000000000*(g*v1):=by grind
  omega
 have a8:m<=1000000001:=by
  by_cases h:m<=1000000001
  ·exact h
  ·have:1000000002*v1<=m*v1:=mrT (by omega) (by omega);omega
 refine dD (fun x:Int×Int=>0<=x.1/\x.1<=1000000001/\0<=x.2/\x.2<1000000000/\x1+1000000000*x2=x.1*v1+x.2/\W<(x.1+1)*V) (fun x=>((1000000000-x.2) / 500000000).toNat) ?_ n (m,r0) ⟨J,a8,I,(by show r0<1000000000;omega),(by show _=m*v1+r0;omega),(show W<(m+1)*V from k.first E J (by omega))⟩ (by simp only;omega);rintro again ⟨g,r⟩ ⟨N,a2,a3,a4,T,a6⟩ ih;simp only at N a2 a3 a4 T a6;have next:(1000000000<=g\/r*1000000000+x0<g*v2)->Ok (cdO (decide ((aa .u64 (r+v1))>=1000000000)) (some (aa .u64 (g-1))) (again (aa .u64 (g-1),aa .u64 (r+v1)))) fun g=>0<=g/\g<1000000000/\W<(g+1)*V/\(1<=g->(g-1)*V<=W):=by
  intro h;have hW:=dec g r N a2 a3 a4 T h;have b5:1<=g:=by
   rcases h with h|h
   ·omega
   ·by_cases h0:g=0
    ·rw[h0]at h;omega
    ·omega
  have e5:x1+1000000000*x2=(g-1)*v1+(r+v1):=by rw[T];grind
  rw[aF (n:=r+v1) (by omega) (by omega),aF (by omega) (by omega)];refine Ok.cd (fun h=>?_) (fun h=>?_)
  ·have hb:=dcT h;have O:g-1<1000000000:=by
    by_cases hh:g-1<1000000000
    ·exact hh
    ·have:1000000000*v1<=(g-1)*v1:=mrT (by omega) (by omega);omega
   refine aw.2 ⟨by omega,O,by rw[(by omega:g-1+1=g)];exact hW,stop (g-1) (r+v1) (by omega) O e5 ?_⟩;have:(g-1)*v2<=999999999*999999999:=Int.mul_le_mul (by omega) (by omega) q.1 (by omega);omega
  ·have hb:=dcF h;exact ih _ ⟨by simp only;omega,by simp only;omega,by simp only;omega,by simp only;omega,e5,by simp only;rw[(by omega:g-1+1=g)];exact hW⟩ (by simp only;omega)
 refine Ok.cd (fun h=>?_) (fun h=>?_)
 ·exact next (.inl (dcT h))
 ·have hg:=dcF h;refine Ok.gd (by rw[aR];simpa using U) (Ok.gd (by rw[aR];simpa using Y) ?_);have m1:0<=g*v2:=Int.mul_nonneg N q.1;have m2:g*v2<=999999999*999999999:=Int.mul_le_mul (by omega) (by omega) q.1 (by omega);rw[aF (n:=g*v2) (by omega) (by omega),aF (n:=r*1000000000) (by omega) (by omega),aF (n:=r*1000000000+x0) (by omega) (by omega)];refine Ok.cd (fun h=>?_) (fun h=>?_)
  ·exact next (.inr (dcT h))
  ·have:=dcF h;exact aw.2 ⟨N,by omega,a6,stop g r N (by omega) T (by omega)⟩
theorem HD{n:Nat}(hn:1000<=n){v p:List Int}{g:Int}{j:Nat}(hv:Dig v)(hu:Dig p)(hg:0<=g/\g<1000000000)(lv:v.length<=400)(lu:p.length<=900)(hj:j+v.length<p.length):
  Ok (aJ (α:=List Int×Int×Int×Int) (β:=List Int×Int×Int) n (fun again x=>match x with
   | (u, borrow,carry,i)=>(
         cdO (decide (i<(v.length:Int))) (
          gdO (inR i v.length) (
          gdO (inR (Jy (i+(j:Int))) u.length) (
          cdO (decide ((Jy ((Jy ((Jy (gt u (Jy (i+(j:Int)))))-borrow))-(Jy ((aa .u64 ((aa .u64 (g*(aa .u64 (gt v i))))+carry)).tmod 1000000000))))<0)) (
           again (u.set (Jy (i+(j:Int))).toNat (aa .u32 (Jy ((Jy ((Jy ((Jy (gt u (Jy (i+(j:Int)))))-borrow))-(Jy ((aa .u64 ((aa .u64 (g*(aa .u64 (gt v i))))+carry)).tmod 1000000000))))+1000000000))),1,aa .u64 ((aa .u64 ((aa .u64 (g*(aa .u64 (gt v i))))+carry)).tdiv 1000000000),Jy (i+1))
          ) (
           again (u.set (Jy (i+(j:Int))).toNat (aa .u32 (Jy ((Jy ((Jy (gt u (Jy (i+(j:Int)))))-borrow))-(Jy ((aa .u64 ((aa .u64 (g*(aa .u64 (gt v i))))+carry)).tmod 1000000000))))),0,aa .u64 ((aa .u64 ((aa .u64 (g*(aa .u64 (gt v i))))+carry)).tdiv 1000000000),Jy (i+1))
          )
          )
          )
         ) (
          some ((u,borrow,carry))
         )
    )) (p,0,0,0)) fun r=>r.1.length=p.length/\Dig r.1/\(r.2.1=0\/r.2.1=1)/\(0<=r.2.2/\r.2.2<1000000000)/\(∀m,j+v.length<=m->r.1.getD m 0=p.getD m 0)/\vk r.1 j=vk p j/\vl r.1=vl p-pB j*(g*vl v)+pB (j+v.length)*(r.2.1+r.2.2):=by
 refine dD (fun x:List Int×Int×Int×Int=>∃i:Nat,x.2.2.2=(i:Int)/\i<=v.length/\x.1.length=p.length/\Dig x.1/\(x.2.1=0\/x.2.1=1)/\(0<=x.2.2.1/\x.2.2.1<1000000000)/\(∀m,j+i<=m->x.1.getD m 0=p.getD m 0)/\vk x.1 j=vk p j/\vl x.1=vl p-pB j*(g*vk v i)+pB (j+i)*(x.2.1+x.2.2.1)) (fun x=>v.length-x.2.2.2.toNat) ?_ n (p,0,0,0)
  ⟨0,rfl,by omega,rfl,hu,.inl rfl,by simp,fun m _=>rfl,rfl,by simp[jn]⟩ (by simp;omega)
 rintro again ⟨u,z,ca,x⟩ ⟨i,hx,h1,h2,D,T,U,J,E,I⟩ ih;simp only at hx h2 D T U J E I;subst hx;dsimp only;refine Ok.cd (fun h=>?_) (fun h=>?_)
 ·have M:i<v.length:=by have:=dcT h;omega
  rw[nk (by omega) (by omega),dY,dY];refine Ok.gd (by rw[aR];simpa using M) (Ok.gd (by rw[aR];simp;omega) ?_);have Y:=cB hv i;have du:=cB D (i+j);have m1:0<=g*v.getD i 0:=Int.mul_nonneg hg.1 Y.1;have m2:g*v.getD i 0<=999999999*999999999:=Int.mul_le_mul (by omega) (by omega) Y.1 (by omega);rw[aF (n:=v.getD i 0) (by omega) (by omega),aF (n:=g*v.getD i 0) (by omega) (by omega),aF (n:=g*v.getD i 0+ca) (by omega) (by omega)];generalize hs:g*v.getD i 0+ca=s;have C:0<=s:=by omega
  rw[(pN C).1,(pN C).2];have a0:s / 1000000000<1000000000:=by omega
  have e:s=s%1000000000+1000000000*(s / 1000000000):=by omega
  rw[aF (n:=s / 1000000000) (by omega) (by omega),wrap64_in (n:=s%1000000000) (by omega) (by omega),wrap64_in (n:=u.getD (i+j) 0) (by omega) (by omega),wrap64_in (n:=u.getD (i+j) 0-z) (by omega) (by omega),wrap64_in (n:=u.getD (i+j) 0-z-s%1000000000) (by omega) (by omega),jR (by omega),Int.toNat_natCast];have step:∀d q,(0<=d/\d<1000000000)->(q=0\/q=1)->u.getD (i+j) 0-z-s%1000000000=d-1000000000*q->Ok (again (u.set (i+j) d,q,s / 1000000000,((i+1:Nat):Int))) fun r=>r.1.length=p.length/\Dig r.1/\(r.2.1=0\/r.2.1=1)/\(0<=r.2.2/\r.2.2<1000000000)/\(∀m,j+v.length<=m->r.1.getD m 0=p.getD m 0)/\vk r.1 j=vk p j/\vl r.1=vl p-pB j*(g*vl v)+pB (j+v.length)*(r.2.1+r.2.2):=by
   intro d q hd hb N;refine ih _ ⟨i+1,rfl,by omega,by simpa using h2,jS D hd,hb,by simp only;omega,?_,?_,?_⟩ (by simp;omega)
   ·intro m hm;simp only;rw[iY (by omega)];exact J m (by omega)
   ·simp only;unfold vk at E ⊢;rw[List.take_set_of_le (by omega)];exact E
   ·simp only;rw[mY (by omega),fC,<-Nat.add_assoc,cE,Nat.add_comm i j,mr,I,mr];rw[Nat.add_comm i j]at N;have e2:u.getD (j+i) 0=d-1000000000*q+z+s%1000000000:=by omega
    rw[e2];have e3:s%1000000000=g*v.getD i 0+ca-1000000000*(s / 1000000000):=by omega
    rw[e3];grind
  refine Ok.cd (fun h=>?_) (fun h=>?_)
  ·have O:=dcT h;rw[wrap64_in (n:=u.getD (i+j) 0-z-s%1000000000+1000000000) (by omega) (by omega),bf (by omega) (by omega)];exact step _ 1 (by omega) (.inr rfl) (by omega)
  ·have O:=dcF h;rw[bf (by omega) (by omega)];exact step _ 0 (by omega) (.inl rfl) (by omega)
 ·have M:i=v.length:=by have:=dcF h;omega
  subst M;rw[gp (l:=v) (by omega)]at I;exact aw.2 ⟨h2,D,T,U,J,E,I⟩
theorem HB{n:Nat}(U:1000<=n){v p:List Int}{j:Nat}(O:Dig v)(hu:Dig p)(Y:v.length<=400)(lu:p.length<=900)(hj:j+v.length<p.length):
  Ok (aJ (α:=List Int×Int×Int) (β:=List Int×Int) n (fun again x=>match x with
   | (u, c, i) =>(
               cdO (decide (i<(v.length:Int))) (
                gdO (inR (Jy (i+(j:Int))) u.length) (
                gdO (inR i v.length) (
                cdO (decide ((aa .u32 ((aa .u32 ((gt u (Jy (i+(j:Int))))+(gt v i)))+c))>=1000000000)) (
                 again (u.set (Jy (i+(j:Int))).toNat (aa .u32 ((aa .u32 ((aa .u32 ((gt u (Jy (i+(j:Int))))+(gt v i)))+c))-1000000000)),1,Jy (i+1))
                ) (
                 again (u.set (Jy (i+(j:Int))).toNat (aa .u32 ((aa .u32 ((gt u (Jy (i+(j:Int))))+(gt v i)))+c)),0,Jy (i+1))
                )
                )
                )
               ) (
                some ((u,c))
               )
    )) (p,0,0)) fun r=>r.1.length=p.length/\Dig r.1/\(r.2=0\/r.2=1)/\(∀m,j+v.length<=m->r.1.getD m 0=p.getD m 0)/\vk r.1 j=vk p j/\vl r.1=vl p+pB j*vl v-pB (j+v.length)*r.2:=by
 refine dD (fun x:List Int×Int×Int=>∃i:Nat,x.2.2=(i:Int)/\i<=v.length/\x.1.length=p.length/\Dig x.1/\(x.2.1=0\/x.2.1=1)/\(∀m,j+i<=m->x.1.getD m 0=p.getD m 0)/\vk x.1 j=vk p j/\vl x.1=vl p+pB j*vk v i-pB (j+i)*x.2.1) (fun x=>v.length-x.2.2.toNat) ?_ n (p,0,0)
  ⟨0,rfl,by omega,rfl,hu,.inl rfl,fun m _=>rfl,rfl,by simp[jn]⟩ (by simp;omega)
 rintro again ⟨u,c,x⟩ ⟨i,hx,h1,h2,z,N,E,C,D⟩ T;simp only at hx h2 z N E C D;subst hx;dsimp only;refine Ok.cd (fun h=>?_) (fun h=>?_)
 ·have I:i<v.length:=by have:=dcT h;omega
  rw[nk (by omega) (by omega),dY,dY];refine Ok.gd (by rw[aR];simp;omega) (Ok.gd (by rw[aR];simpa using I) ?_);have dv:=cB O i;have du:=cB z (i+j);rw[bf (n:=u.getD (i+j) 0+v.getD i 0) (by omega) (by omega),bf (n:=u.getD (i+j) 0+v.getD i 0+c) (by omega) (by omega),jR (by omega),Int.toNat_natCast];have step:∀d q,(0<=d/\d<1000000000)->(q=0\/q=1)->u.getD (i+j) 0+v.getD i 0+c=d+1000000000*q->Ok (again (u.set (i+j) d,q,((i+1:Nat):Int))) fun r=>r.1.length=p.length/\Dig r.1/\(r.2=0\/r.2=1)/\(∀m,j+v.length<=m->r.1.getD m 0=p.getD m 0)/\vk r.1 j=vk p j/\vl r.1=vl p+pB j*vl v-pB (j+v.length)*r.2:=by
   intro d q hd hc J;refine T _ ⟨i+1,rfl,by omega,by simpa using h2,jS z hd,hc,?_,?_,?_⟩ (by simp;omega)
   ·intro m hm;simp only;rw[iY (by omega)];exact E m (by omega)
   ·simp only;unfold vk at C ⊢;rw[List.take_set_of_le (by omega)];exact C
   ·simp only;rw[mY (by omega),fC,<-Nat.add_assoc,cE,Nat.add_comm i j,mr,D,mr];rw[Nat.add_comm i j]at J;have e2:u.getD (j+i) 0=d+1000000000*q-v.getD i 0-c:=by omega
    rw[e2];grind
  refine Ok.cd (fun h=>?_) (fun h=>?_)
  ·have M:=dcT h;rw[bf (by omega) (by omega)];exact step _ 1 (by omega) (.inr rfl) (by omega)
  ·have M:=dcF h;exact step _ 0 (by omega) (.inl rfl) (by omega)
 ·have I:i=v.length:=by have:=dcF h;omega
  subst I;rw[gp (l:=v) (by omega)]at D;exact aw.2 ⟨h2,z,N,E,C,D⟩
end Go.L

