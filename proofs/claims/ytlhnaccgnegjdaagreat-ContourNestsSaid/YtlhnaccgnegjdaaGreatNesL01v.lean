import Derived.Test.YtlhnaccgnegjdaaGreatNesL01s
import Derived.Test.YtlhnaccgnegjdaaGreatPl6Ness
set_option linter.all false
namespace Go.L.R
open Go Go.Eng Go.L
theorem pN{m d:Int}(h:0<=m):m.tdiv d=m / d/\m.tmod d=m%d:=⟨Int.tdiv_eq_ediv_of_nonneg h,Int.tmod_eq_emod_of_nonneg h⟩
theorem y6{n:Nat}{g:List Int}(m:1000<=n)(hd:Dig g)(p:g.length<=900):Ok (aV n false g) fun z=>Can z.Groups/\vl z.Groups=vl g:=
 (dy m false hd p).mono fun z j=>⟨j.1,by have h1:=gT j;have h2:=ba hd;simp only[Bool.false_eq_true,if_false]at h1;omega⟩
theorem oT{n:Nat}{a:List Int}{d:Int}(T:1000<=n)(ha:Dig a)(la:a.length<=900)(hd:0<d)(U:d<=1000000000):Ok (eZ n a d) fun r=>Can r.1/\(0<=r.2/\r.2<d)/\vl r.1*d+r.2=vl a:=by
 unfold eZ;refine Ok.gd (by simp) (Ok.gd (by simp;omega) (Ok.gd (by simp;omega) ?_));refine Ok.bd (R:=fun r=>Dig r.1/\r.1.length=a.length/\(0<=r.2/\r.2<d)/\vl r.1*d+r.2=vl a) ?_ ?_
 ·refine dD (fun x:List Int×Int×Int=>∃k:Nat,x.2.2=(k:Int)-1/\k<=a.length/\x.1.length=a.length/\Dig x.1/\(∀i,i<k->x.1.getD i 0=0)/\(0<=x.2.1/\x.2.1<d)/\vl x.1*d+pB k*x.2.1=vl a-vk a k) (fun x=>(x.2.2+1).toNat) ?_ n _
   ⟨a.length,by simp only;rw[wrap64_in (by omega) (by omega)],Nat.le_refl _,by simp,qE _,fun i _=>wc,⟨Int.le_refl _,hd⟩,by simp only;rw[gp (Nat.le_refl _),vU];omega⟩ (by simp only;rw[wrap64_in (by omega) (by omega)];omega)
  rintro again ⟨q,r,x⟩ ⟨k,hx,h1,h2,C,D,N,E⟩ Y;simp only at hx h2 C D N E;subst hx;dsimp only;refine Ok.cd (fun h=>?_) (fun h=>?_)
  ·have hk:=dcT h;obtain⟨j,rfl⟩:∃j,k=j+1:=⟨k-1,by omega⟩;have ej:(((j+1:Nat):Int)-1)=(j:Int):=by omega
   rw[ej];refine Ok.gd (by rw[aR];simp;omega) (Ok.gd (by rw[decide_eq_false (by omega)];rfl) (Ok.gd (by rw[aR];simp;omega) ?_));rw[dY];have da:=cB ha j;rw[aF (n:=r*1000000000) (by omega) (by omega),aF (n:=a.getD j 0) (by omega) (by omega),aF (n:=r*1000000000+a.getD j 0) (by omega) (by omega)];generalize hs:r*1000000000+a.getD j 0=s;have m:0<=s:=by omega
   rw[(pN m).1,(pN m).2];have hm:=Int.emod_add_mul_ediv s d;have I:=Int.emod_nonneg s (by omega:d≠0);have J:=Int.emod_lt_of_pos s hd;have p:0<=s / d:=Int.ediv_nonneg m (by omega);have M:s / d<1000000000:=(Int.ediv_lt_iff_lt_mul hd).2 (by omega);rw[aF p (by omega),bf p (by omega),Int.toNat_natCast,wrap64_in (n:=(j:Int)-1) (by omega) (by omega)];refine Y _ ⟨j,rfl,by omega,by simpa using h2,jS C ⟨p,M⟩,?_,⟨I,J⟩,?_⟩ (by simp)
   ·intro i hi;simp only;rw[iY (by omega)];exact D i (by omega)
   ·simp only;rw[mY (by omega),D j (by omega)];rw[fC,cE]at E;rw[<-hs]at hm;grind
  ·have hk:=dcF h;obtain rfl:k=0:=by omega
   rw[jn]at E;have:pB 0=1:=rfl;rw[this]at E;exact aw.2 ⟨C,h2,N,by simp only;omega⟩
 ·rintro⟨q,r⟩ ⟨h1,h2,C,D⟩;simp only at h1 h2 C D;dsimp only;refine Ok.bd (y6 T h1 (by omega)) fun z O=>aw.2 ⟨O.1,C,?_⟩
  simp only;rw[O.2];exact D
theorem vp{n:Nat}{a:List Int}{d:Int}(E:1000<=n)(ha:Dig a)(N:a.length<=800)(hd:0<=d)(I:d<1000000000):Ok (cm n a d) fun r=>Can r/\vl r=vl a*d:=by
 unfold cm;refine Ok.bd (R:=fun r=>Dig r.1/\r.1.length=a.length/\(0<=r.2/\r.2<1000000000)/\vl r.1+pB a.length*r.2=vl a*d) ?_ ?_
 ·refine dD (fun x:List Int×Int×Int=>∃k:Nat,x.2.2=(k:Int)/\k<=a.length/\x.1.length=k/\Dig x.1/\(0<=x.2.1/\x.2.1<1000000000)/\vl x.1+pB k*x.2.1=vk a k*d) (fun x=>a.length-x.2.2.toNat) ?_ n _
   ⟨0,rfl,by omega,rfl,og,by simp,by simp[jn,vl]⟩ (by simp;omega)
  rintro again ⟨out,c,x⟩ ⟨k,hx,h1,h2,j,m,q⟩ J;simp only at hx h2 j m q;subst hx;dsimp only;refine Ok.cd (fun h=>?_) (fun h=>?_)
  ·have C:k<a.length:=by have:=dcT h;omega
   refine Ok.gd (by rw[aR];simpa using C) (Ok.gd (by simp;omega) (Ok.gd (by simp;omega) ?_));rw[dY];have M:=cB ha k;have O:0<=a.getD k 0*d:=Int.mul_nonneg M.1 hd;have T:a.getD k 0*d<=999999999*999999999:=Int.mul_le_mul (by omega) (by omega) hd (by omega);rw[aF (n:=a.getD k 0) (by omega) (by omega),aF (n:=a.getD k 0*d) (by omega) (by omega),aF (n:=a.getD k 0*d+c) (by omega) (by omega)];generalize hs:a.getD k 0*d+c=s;have p:0<=s:=by omega
   rw[(pN p).1,(pN p).2,aF (n:=s / 1000000000) (by omega) (by omega),bf (n:=s%1000000000) (by omega) (by omega),jR (by omega)];refine J _ ⟨k+1,rfl,by omega,by simp;omega,ln.2 ⟨j,fN.2 (by omega)⟩,by simp only;omega,?_⟩ (by simp;omega);simp only;rw[me,hZ,h2,fC,cE];have:s%1000000000=a.getD k 0*d+c-1000000000*(s / 1000000000):=by omega
   rw[this];grind
  ·have C:=dcF h;obtain rfl:k=a.length:=by omega
   rw[gp (Nat.le_refl _)]at q;exact aw.2 ⟨j,h2,m,q⟩
 ·rintro⟨out,c⟩ ⟨h1,h2,j,m⟩;simp only at h1 h2 j m;dsimp only;refine Ok.gd (by simp;omega) (Ok.gd (by simp;omega) ?_);rw[bf (by omega) (by omega)];refine Ok.bd (y6 E (ln.2 ⟨h1,fN.2 (by omega)⟩) (by simp;omega)) fun z D=>aw.2 ⟨D.1,?_⟩
  rw[D.2,me,hZ,h2];exact m
theorem Cj{n:Nat}{a:List Int}{d:Int}(m:1000<=n)(ha:Dig a)(p:a.length<=800)(hd:0<=d/\d<1000000000):Ok (ew n a d) fun r=>Can r/\vl r=d+1000000000*vl a:=by
 unfold ew;refine Ok.gd (by simp;omega) (Ok.gd (by simp;omega) ?_);refine Ok.bd (y6 m (ln.2 ⟨fN.2 hd,ha⟩) (by simp;omega)) fun z j=>aw.2 ⟨j.1,?_⟩
 rw[j.2];rfl
theorem GL{n:Nat}(N:1000<=n){v r0:List Int}{p:Int}(C:Can v)(Y:Can r0)(lv:v.length<=400)(lr:r0.length<=400)(q:0<vl v)(m:vl r0<10*vl v)(hg:0<=p/\p<=1000000000000000000):
  Ok (aJ (α:=List Int×Int) (β:=List Int×Int) n (fun again x=>match x with
   |(rest,j)=>(
         bdO (dc n rest v) fun D=>(
         cdO (decide (D>=0)) (
          bdO (cg n rest v) fun E=>(
          again (E,aa .u64 (j+1))
          )
         ) (
          some ((rest,j))
         )
         )
    )) (r0,p)) fun r=>Can r.1/\vl r.1<vl v/\p<=r.2/\vl r.1+r.2*vl v=vl r0+p*vl v:=by
 refine dD (fun x:List Int×Int=>Can x.1/\x.1.length<=400/\p<=x.2/\x.2+vl x.1 / vl v=p+vl r0 / vl v/\vl x.1+x.2*vl v=vl r0+p*vl v) (fun x=>(vl x.1 / vl v).toNat) ?_ n _ ⟨Y,lr,Int.le_refl _,rfl,rfl⟩ ?_
 ·rintro again ⟨r,g⟩ ⟨h1,h2,O,h4,T⟩ ih;simp only at h1 h2 O h4 T;dsimp only;refine Ok.bde (z7 N h1 C h2 lv) ?_;have hs:=cR (vl r-vl v);have I:vl r0 / vl v<=10:=Int.le_of_lt ((Int.ediv_lt_iff_lt_mul q).2 m);have J:=ba h1.dig;have a0:0<=vl r / vl v:=Int.ediv_nonneg J (by omega);refine Ok.cd (fun h=>?_) (fun h=>?_)
  ·have hle:vl v<=vl r:=by have:=dcT h;omega
   have ll:v.length<=r.length:=by
    by_cases M:v.length<=r.length
    ·exact M
    ·have:=ck h1.dig C (by omega);omega
   refine Ok.bd (nG N h1.dig C.dig h2 ll hle) ?_;rintro z ⟨z1,U⟩;have lz:z.length<=400:=by
    by_cases M:z.length<=400
    ·exact M
    ·have:=ck h1.dig z1 (by omega);omega
   have ed:vl z / vl v=vl r / vl v-1:=by
    rw[U,(by omega:vl r-vl v=vl r+(-1)*vl v),Int.add_mul_ediv_right _ _ (by omega)];omega
   have a1:0<=vl z / vl v:=Int.ediv_nonneg (ba z1.dig) (by omega);rw[aF (n:=g+1) (by omega) (by omega)];exact ih _ ⟨z1,lz,by simp only;omega,by simp only;omega,by simp only;rw[U];grind⟩ (by simp only;omega)
  ·have m:vl r<vl v:=by have:=dcF h;omega
   exact aw.2 ⟨h1,m,O,T⟩
 ·have I:vl r0 / vl v<10:=(Int.ediv_lt_iff_lt_mul q).2 m;simp only;omega
end Go.L.R


set_option linter.all false
namespace Go.L.R
open Go Go.Eng Go.L
def Hy(v A:List Int)(m:Nat)(r:List Int×List Int):Prop:=Can r.1/\vl r.1<vl v/\Dig r.2/\r.2.length=m/\vl A=vl r.1+vl r.2*vl v
theorem Fk{n:Nat}(hn:1000<=n){b v A r0:List Int}{m:Nat}(Y:Can v)(lb:b.length=v.length)(a9:500000000<=v.getD (v.length-1) 0)(lv:2<=v.length)(g0:v.length<=350)(hA:Dig A)(lA:A.length+1=v.length+m)(g2:A.length<=350)(h0:Can r0)(h1:vl r0<vl v)(h2:vl r0=vl (A.drop m)){j0:Int}(b0:j0=(m:Int)-1):
  Ok (aJ (α:=List Int×List Int×Int) (β:=List Int×List Int) n (fun J (E,M,C)=>(
    cdO (decide (C>=0)) (
     gdO (inR C A.length) (
     bdO (ew n E (gt A C)) fun a0=>(
     bdO (aZ n a0 (b.length:Int)) fun a7=>(
     bdO (aZ n a0 ((b.length-1:Nat):Int)) fun a8=>(
     gdO (inR ((b.length-1:Nat):Int) v.length) (
     gdO (!decide (aa .u64 ((aa .u64 (gt v ((b.length-1:Nat):Int)))+1)=0)) (
     bdO (cm n v (aa .u64 ((aa .u64 ((aa .u64 (a7*1000000000))+a8)).tdiv (aa .u64 ((aa .u64 (gt v ((b.length-1:Nat):Int)))+1))))) fun b6=>(
     bdO (cg n a0 b6) fun b7=>(
     bdO (aJ (α:=List Int×Int) (β:=List Int×Int) n (fun N (p,D)=>(
      bdO (dc n p v) fun b8=>(
      cdO (decide (b8>=0)) (
       bdO (cg n p v) fun b9=>(
       N (b9,aa .u64 (D+1))
       )
      ) (
       some ((p,D))
      )
      )
     )) (b7,aa .u64 ((aa .u64 ((aa .u64 (a7*1000000000))+a8)).tdiv (aa .u64 ((aa .u64 (gt v ((b.length-1:Nat):Int)))+1))))) fun c0=>(
      match c0 with
      |(O,I)=>(
       gdO (inR C M.length) (
       J (O,M.set C.toNat (aa .u32 I),Jy (C-1))
       )
      ))
     )
     )
     )
     )
     )
     )
     )
     )
    ) (
     some ((E,M))
    )
   )) (r0,List.replicate m (0:Int),j0)) (Hy v A m):=by
 subst b0;rw[lb];have c3:0<vl v:=jM Y (by rintro rfl;simp at lv);have e8:=gP Y.dig;refine dD (fun x:List Int×List Int×Int=>∃k:Nat,x.2.2=(k:Int)-1/\k<=m/\Can x.1/\vl x.1<vl v/\x.2.1.length=m/\Dig x.2.1/\(∀i,i<k->x.2.1.getD i 0=0)/\vl A=vk A k+pB k*vl x.1+vl x.2.1*vl v) (fun x=>(x.2.2+1).toNat) ?_ n _
  ⟨m,rfl,Nat.le_refl _,h0,h1,by simp,qE _,fun i _=>wc,by simp only;rw[vU,h2];have:=ga A m;omega⟩ (by simp only;omega)
 rintro again ⟨r,q,x⟩ ⟨k,hx,k1,k2,k3,k4,k5,k6,k7⟩ ih;simp only at hx k2 k3 k4 k5 k6 k7;subst hx;dsimp only;refine Ok.cd (fun h=>?_) (fun h=>?_)
 ·have hk:=dcT h;obtain⟨j,rfl⟩:∃j,k=j+1:=⟨k-1,by omega⟩;have ej:(((j+1:Nat):Int)-1)=(j:Int):=by omega
  rw[ej];refine Ok.gd (by rw[aR];simp;omega) ?_;have dA:=cB hA j;have lr:r.length<=350:=by
   by_cases hl:r.length<=v.length
   ·omega
   ·have:=ck Y.dig k2 (by omega);omega
  rw[dY];refine Ok.bd (Cj hn k2.dig (by omega) dA) ?_;rintro z ⟨z1,z2⟩;have hW:vl z<1000000000*vl v:=by omega
  have lz:z.length<=v.length+1:=lf z1 (by rw[cE];omega);rw[ns z1.dig,ns z1.dig];refine Ok.bde rfl (Ok.bde rfl ?_);refine Ok.gd (by rw[aR];simp;omega) ?_;rw[dY];have d1:=cB Y.dig (v.length-1);have c1:=cB z1.dig (v.length-1);have c2:=cB z1.dig v.length;have ez:=ga z (v.length-1);have c4:=iD z (v.length-1);rw[(by omega:v.length-1+1=v.length)]at c4;have c5:=iD z v.length;rw[List.drop_of_length_le (by omega:z.length<=v.length+1)]at c5;have ev:=ga v (v.length-1);have c6:=iD v (v.length-1);rw[List.drop_of_length_le (by omega:v.length<=v.length-1+1)]at c6;have g3:vl ([]:List Int)=0:=rfl;have g4:=jB z1.dig (v.length-1);have c7:=va z1.dig (v.length-1);have g5:=jB Y.dig (v.length-1);have c8:=va Y.dig (v.length-1);have hP:=gF (v.length-1);have c9:vl (z.drop (v.length-1))=z.getD (v.length-1) 0+1000000000*z.getD v.length 0:=by omega
  have e3:vl (v.drop (v.length-1))=v.getD (v.length-1) 0:=by omega
  rw[c9]at ez;rw[e3]at ev;obtain⟨P,e4⟩:∃P,pB (v.length-1)=P:=⟨_,rfl⟩;obtain⟨t,ht⟩:∃t,v.getD (v.length-1) 0=t:=⟨_,rfl⟩;rw[ht]at a9 d1 ev ⊢;rw[e4]at ez ev c7 c8 hP;rw[aF (n:=t) (by omega) (by omega),aF (n:=t+1) (by omega) (by omega),aF (n:=z.getD v.length 0*1000000000) (by omega) (by omega),aF (n:=z.getD v.length 0*1000000000+z.getD (v.length-1) 0) (by omega) (by omega)];refine Ok.gd (by rw[decide_eq_false (by omega)];rfl) ?_;obtain⟨T,hT⟩:∃T,z.getD v.length 0*1000000000+z.getD (v.length-1) 0=T:=⟨_,rfl⟩;rw[hT,(pN (by omega)).1];have eT:z.getD (v.length-1) 0+1000000000*z.getD v.length 0=T:=by omega
  rw[eT]at ez;obtain⟨g,hg⟩:∃g,T / (t+1)=g:=⟨_,rfl⟩;have hm:=Int.emod_add_mul_ediv T (t+1);have g6:=Int.emod_nonneg T (by omega:t+1≠0);have g7:=Int.emod_lt_of_pos T (by omega:0<t+1);rw[hg]at hm ⊢;have U:0<=g:=by rw[<-hg];exact Int.ediv_nonneg (by omega) (by omega)
  have e5:(t+1)*g=g*(t+1):=Int.mul_comm _ _;have g8:g*vl v<=vl z:=by
   have a1:g*vl v<=g*(P*(t+1)):=mlT (by rw[Int.mul_add];omega) U;have a2:g*(P*(t+1))=P*(g*(t+1)):=by grind
   have a3:P*(g*(t+1))<=P*T:=mlT (by omega) (by omega);omega
  have e6:g<1000000000:=by
   by_cases hh:g<1000000000
   ·exact hh
   ·have:1000000000*vl v<=g*vl v:=mrT (by omega) (by omega);omega
  have e9:vl z-g*vl v<10*vl v:=by
   have a1:P*(T+1)<=P*((g+1)*(t+1)):=mlT (by
    have:(g+1)*(t+1)=g*(t+1)+(t+1):=by grind
    omega) (by omega)
   have a2:P*((g+1)*(t+1))=(g+1)*(P*t)+(g+1)*P:=by grind
   have a3:(g+1)*(P*t)<=(g+1)*vl v:=mlT (by omega) (by omega);have a4:(g+1)*P<=1000000000*P:=mrT (by omega) (by omega);have a5:P*500000000<=P*t:=mlT (by omega) (by omega);have a6:(g+1)*vl v=g*vl v+vl v:=by grind
   rw[Int.mul_add P T 1]at a1;omega
  rw[aF (n:=g) (by omega) (by omega)];refine Ok.bd (vp hn Y.dig (by omega) U e6) ?_;rintro y ⟨y1,y2⟩;rw[Int.mul_comm]at y2;have ly:y.length<=z.length:=by
   by_cases hl:y.length<=z.length
   ·exact hl
   ·have:=ck z1.dig y1 (by omega);omega
  refine Ok.bd (nG hn z1.dig y1.dig (by omega) ly (by omega)) ?_;rintro s ⟨s1,s2⟩;have ls:s.length<=400:=by
   by_cases hl:s.length<=400
   ·exact hl
   ·have h9:=ck z1.dig s1 (by omega);have:=Int.mul_nonneg U (by omega:0<=vl v);omega
  refine Ok.bd (GL hn Y s1 (by omega) ls c3 (by omega) ⟨U,by omega⟩) ?_;rintro⟨r1,g1⟩ ⟨b1,b2,b3,b4⟩;simp only at b1 b2 b3 b4;dsimp only;have b5:vl r1+g1*vl v=vl z:=by omega
  have g9:=ba b1.dig;have e7:g1<1000000000:=by
   by_cases hh:g1<1000000000
   ·exact hh
   ·have:1000000000*vl v<=g1*vl v:=mrT (by omega) (by omega);omega
  refine Ok.gd (by rw[aR];simp;omega) ?_;rw[bf (n:=g1) (by omega) (by omega),Int.toNat_natCast,wrap64_in (n:=(j:Int)-1) (by omega) (by omega)];refine ih _ ⟨j,rfl,by omega,b1,b2,by simpa using k4,jS k5 ⟨by omega,e7⟩,?_,?_⟩ (by simp)
  ·intro i hi;simp only;rw[iY (by omega)];exact k6 i (by omega)
  ·simp only;rw[mY (by omega),k6 j (by omega)];rw[fC,cE]at k7;rw[k7];have:A.getD j 0=vl r1+g1*vl v-1000000000*vl r:=by omega
   rw[this];grind
 ·have hk:=dcF h;obtain rfl:k=0:=by omega
  rw[jn]at k7;have e1:pB 0=1:=rfl;rw[e1]at k7;exact aw.2 ⟨k2,k3,k5,k4,by simp only;omega⟩
end Go.L.R

