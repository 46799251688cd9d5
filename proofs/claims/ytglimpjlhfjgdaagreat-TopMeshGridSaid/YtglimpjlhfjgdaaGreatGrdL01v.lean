import Derived.Test.YtglimpjlhfjgdaaGreatGrdL01s
import Derived.Test.YtglimpjlhfjgdaaGreatPl6Grds
set_option linter.all false
namespace Go.L.R
open Go Go.Eng Go.L
theorem pd{m d:Int}(h:0<=m):m.tdiv d=m / d/\m.tmod d=m%d:=⟨Int.tdiv_eq_ediv_of_nonneg h,Int.tmod_eq_emod_of_nonneg h⟩
theorem xT{n:Nat}{g:List Int}(p:1000<=n)(j:Dig g)(q:g.length<=900):Ok (aR n false g) fun z=>Can z.Groups/\vl z.Groups=vl g:=
 (dy p false j q).mono fun z m=>⟨m.1,by have h1:=gV m;have h2:=aZ j;simp only[Bool.false_eq_true,if_false]at h1;omega⟩
theorem nY{n:Nat}{a:List Int}{d:Int}(U:1000<=n)(Y:Dig a)(la:a.length<=900)(I:0<d)(Z:d<=1000000000):Ok (fj n a d) fun r=>Can r.1/\(0<=r.2/\r.2<d)/\vl r.1*d+r.2=vl a:=by
 unfold fj;refine Ok.gd (by simp) (Ok.gd (by simp;omega) (Ok.gd (by simp;omega) ?_));refine Ok.bd (R:=fun r=>Dig r.1/\r.1.length=a.length/\(0<=r.2/\r.2<d)/\vl r.1*d+r.2=vl a) ?_ ?_
 ·refine dx (fun x:List Int×Int×Int=>∃k:Nat,x.2.2=(k:Int)-1/\k<=a.length/\x.1.length=a.length/\Dig x.1/\(∀i,i<k->x.1.getD i 0=0)/\(0<=x.2.1/\x.2.1<d)/\vl x.1*d+pB k*x.2.1=vl a-vk a k) (fun x=>(x.2.2+1).toNat) ?_ n _
   ⟨a.length,by simp only;rw[wrap64_in (by omega) (by omega)],Nat.le_refl _,by simp,qb _,fun i _=>uT,⟨Int.le_refl _,I⟩,by simp only;rw[gx (Nat.le_refl _),vg];omega⟩ (by simp only;rw[wrap64_in (by omega) (by omega)];omega)
  rintro again ⟨q,r,x⟩ ⟨k,O,h1,h2,C,D,S,E⟩ ih;simp only at O h2 C D S E;subst O;dsimp only;refine Ok.cd (fun h=>?_) (fun h=>?_)
  ·have hk:=dcT h;obtain⟨j,rfl⟩:∃j,k=j+1:=⟨k-1,by omega⟩;have ej:(((j+1:Nat):Int)-1)=(j:Int):=by omega
   rw[ej];refine Ok.gd (by rw[bb];simp;omega) (Ok.gd (by rw[decide_eq_false (by omega)];rfl) (Ok.gd (by rw[bb];simp;omega) ?_));rw[dN];have da:=cI Y j;rw[aE (n:=r*1000000000) (by omega) (by omega),aE (n:=a.getD j 0) (by omega) (by omega),aE (n:=r*1000000000+a.getD j 0) (by omega) (by omega)];generalize hs:r*1000000000+a.getD j 0=s;have m:0<=s:=by omega
   rw[(pd m).1,(pd m).2];have hm:=Int.emod_add_mul_ediv s d;have J:=Int.emod_nonneg s (by omega:d≠0);have M:=Int.emod_lt_of_pos s I;have p:0<=s / d:=Int.ediv_nonneg m (by omega);have N:s / d<1000000000:=(Int.ediv_lt_iff_lt_mul I).2 (by omega);rw[aE p (by omega),bj p (by omega),Int.toNat_natCast,wrap64_in (n:=(j:Int)-1) (by omega) (by omega)];refine ih _ ⟨j,rfl,by omega,by simpa using h2,jN C ⟨p,N⟩,?_,⟨J,M⟩,?_⟩ (by simp)
   ·intro i hi;simp only;rw[iR (by omega)];exact D i (by omega)
   ·simp only;rw[mq (by omega),D j (by omega)];rw[fK,cL]at E;rw[<-hs]at hm;grind
  ·have hk:=dcF h;obtain rfl:k=0:=by omega
   rw[ji]at E;have:pB 0=1:=rfl;rw[this]at E;exact ar.2 ⟨C,h2,S,by simp only;omega⟩
 ·rintro⟨q,r⟩ ⟨h1,h2,C,D⟩;simp only at h1 h2 C D;dsimp only;refine Ok.bd (xT U h1 (by omega)) fun z T=>ar.2 ⟨T.1,C,?_⟩
  simp only;rw[T.2];exact D
theorem uJ{n:Nat}{a:List Int}{d:Int}(I:1000<=n)(J:Dig a)(S:a.length<=800)(C:0<=d)(M:d<1000000000):Ok (cu n a d) fun r=>Can r/\vl r=vl a*d:=by
 unfold cu;refine Ok.bd (R:=fun r=>Dig r.1/\r.1.length=a.length/\(0<=r.2/\r.2<1000000000)/\vl r.1+pB a.length*r.2=vl a*d) ?_ ?_
 ·refine dx (fun x:List Int×Int×Int=>∃k:Nat,x.2.2=(k:Int)/\k<=a.length/\x.1.length=k/\Dig x.1/\(0<=x.2.1/\x.2.1<1000000000)/\vl x.1+pB k*x.2.1=vk a k*d) (fun x=>a.length-x.2.2.toNat) ?_ n _
   ⟨0,rfl,by omega,rfl,nA,by simp,by simp[ji,vl]⟩ (by simp;omega)
  rintro again ⟨out,c,x⟩ ⟨k,D,h1,h2,j,m,q⟩ N;simp only at D h2 j m q;subst D;dsimp only;refine Ok.cd (fun h=>?_) (fun h=>?_)
  ·have hk:k<a.length:=by have:=dcT h;omega
   refine Ok.gd (by rw[bb];simpa using hk) (Ok.gd (by simp;omega) (Ok.gd (by simp;omega) ?_));rw[dN];have O:=cI J k;have m1:0<=a.getD k 0*d:=Int.mul_nonneg O.1 C;have m2:a.getD k 0*d<=999999999*999999999:=Int.mul_le_mul (by omega) (by omega) C (by omega);rw[aE (n:=a.getD k 0) (by omega) (by omega),aE (n:=a.getD k 0*d) (by omega) (by omega),aE (n:=a.getD k 0*d+c) (by omega) (by omega)];generalize hs:a.getD k 0*d+c=s;have p:0<=s:=by omega
   rw[(pd p).1,(pd p).2,aE (n:=s / 1000000000) (by omega) (by omega),bj (n:=s%1000000000) (by omega) (by omega),jI (by omega)];refine N _ ⟨k+1,rfl,by omega,by simp;omega,kN.2 ⟨j,fV.2 (by omega)⟩,by simp only;omega,?_⟩ (by simp;omega);simp only;rw[lI,gY,h2,fK,cL];have:s%1000000000=a.getD k 0*d+c-1000000000*(s / 1000000000):=by omega
   rw[this];grind
  ·have hk:=dcF h;obtain rfl:k=a.length:=by omega
   rw[gx (Nat.le_refl _)]at q;exact ar.2 ⟨j,h2,m,q⟩
 ·rintro⟨out,c⟩ ⟨h1,h2,j,m⟩;simp only at h1 h2 j m;dsimp only;refine Ok.gd (by simp;omega) (Ok.gd (by simp;omega) ?_);rw[bj (by omega) (by omega)];refine Ok.bd (xT I (kN.2 ⟨h1,fV.2 (by omega)⟩) (by simp;omega)) fun z E=>ar.2 ⟨E.1,?_⟩
  rw[E.2,lI,gY,h2];exact m
theorem AE{n:Nat}{a:List Int}{d:Int}(m:1000<=n)(p:Dig a)(C:a.length<=800)(q:0<=d/\d<1000000000):Ok (dV n a d) fun r=>Can r/\vl r=d+1000000000*vl a:=by
 unfold dV;refine Ok.gd (by simp;omega) (Ok.gd (by simp;omega) ?_);refine Ok.bd (xT m (kN.2 ⟨fV.2 q,p⟩) (by simp;omega)) fun z j=>ar.2 ⟨j.1,?_⟩
 rw[j.2];rfl
theorem EM{n:Nat}(J:1000<=n){v r0:List Int}{g0:Int}(q:Can v)(O:Can r0)(S:v.length<=400)(T:r0.length<=400)(p:0<vl v)(m:vl r0<10*vl v)(hg:0<=g0/\g0<=1000000000000000000):
  Ok (aK (α:=List Int×Int) (β:=List Int×Int) n (fun again x=>match x with
   |(rest,j)=>(
         bdO (di n rest v) fun v85=>(
         cdO (decide (v85>=0)) (
          bdO (cm n rest v) fun C=>(
          again (C,aa .u64 (j+1))
          )
         ) (
          some ((rest,j))
         )
         )
    )) (r0,g0)) fun r=>Can r.1/\vl r.1<vl v/\g0<=r.2/\vl r.1+r.2*vl v=vl r0+g0*vl v:=by
 refine dx (fun x:List Int×Int=>Can x.1/\x.1.length<=400/\g0<=x.2/\x.2+vl x.1 / vl v=g0+vl r0 / vl v/\vl x.1+x.2*vl v=vl r0+g0*vl v) (fun x=>(vl x.1 / vl v).toNat) ?_ n _ ⟨O,T,Int.le_refl _,rfl,rfl⟩ ?_
 ·rintro again ⟨r,g⟩ ⟨h1,h2,M,U,N⟩ Y;simp only at h1 h2 M U N;dsimp only;refine Ok.bde (zf J h1 q h2 S) ?_;have hs:=cM (vl r-vl v);have D:vl r0 / vl v<=10:=Int.le_of_lt ((Int.ediv_lt_iff_lt_mul p).2 m);have E:=aZ h1.dig;have Z:0<=vl r / vl v:=Int.ediv_nonneg E (by omega);refine Ok.cd (fun h=>?_) (fun h=>?_)
  ·have hle:vl v<=vl r:=by have:=dcT h;omega
   have ll:v.length<=r.length:=by
    by_cases I:v.length<=r.length
    ·exact I
    ·have:=cr h1.dig q (by omega);omega
   refine Ok.bd (mS J h1.dig q.dig h2 ll hle) ?_;rintro z ⟨z1,z2⟩;have lz:z.length<=400:=by
    by_cases I:z.length<=400
    ·exact I
    ·have:=cr h1.dig z1 (by omega);omega
   have ed:vl z / vl v=vl r / vl v-1:=by
    rw[z2,(by omega:vl r-vl v=vl r+(-1)*vl v),Int.add_mul_ediv_right _ _ (by omega)];omega
   have a1:0<=vl z / vl v:=Int.ediv_nonneg (aZ z1.dig) (by omega);rw[aE (n:=g+1) (by omega) (by omega)];exact Y _ ⟨z1,lz,by simp only;omega,by simp only;omega,by simp only;rw[z2];grind⟩ (by simp only;omega)
  ·have m:vl r<vl v:=by have:=dcF h;omega
   exact ar.2 ⟨h1,m,M,N⟩
 ·have D:vl r0 / vl v<10:=(Int.ediv_lt_iff_lt_mul p).2 m;simp only;omega
end Go.L.R


set_option linter.all false
namespace Go.L.R
open Go Go.Eng Go.L
def FG(v A:List Int)(m:Nat)(r:List Int×List Int):Prop:=Can r.1/\vl r.1<vl v/\Dig r.2/\r.2.length=m/\vl A=vl r.1+vl r.2*vl v
theorem DS{n:Nat}(hn:1000<=n){b v A r0:List Int}{m:Nat}(U:Can v)(lb:b.length=v.length)(a7:500000000<=v.getD (v.length-1) 0)(lv:2<=v.length)(e8:v.length<=350)(hA:Dig A)(lA:A.length+1=v.length+m)(e9:A.length<=350)(h0:Can r0)(h1:vl r0<vl v)(h2:vl r0=vl (A.drop m)){j0:Int}(a8:j0=(m:Int)-1):
  Ok (aK (α:=List Int×List Int×Int) (β:=List Int×List Int) n (fun J (E,M,C)=>(
    cdO (decide (C>=0)) (
     gdO (inR C A.length) (
     bdO (dV n E (gt A C)) fun Y=>(
     bdO (aV n Y (b.length:Int)) fun Z=>(
     bdO (aV n Y ((b.length-1:Nat):Int)) fun v67=>(
     gdO (inR ((b.length-1:Nat):Int) v.length) (
     gdO (!decide (aa .u64 ((aa .u64 (gt v ((b.length-1:Nat):Int)))+1)=0)) (
     bdO (cu n v (aa .u64 ((aa .u64 ((aa .u64 (Z*1000000000))+v67)).tdiv (aa .u64 ((aa .u64 (gt v ((b.length-1:Nat):Int)))+1))))) fun b0=>(
     bdO (cm n Y b0) fun b6=>(
     bdO (aK (α:=List Int×Int) (β:=List Int×Int) n (fun N (p,D)=>(
      bdO (di n p v) fun v85=>(
      cdO (decide (v85>=0)) (
       bdO (cm n p v) fun b7=>(
       N (b7,aa .u64 (D+1))
       )
      ) (
       some ((p,D))
      )
      )
     )) (b6,aa .u64 ((aa .u64 ((aa .u64 (Z*1000000000))+v67)).tdiv (aa .u64 ((aa .u64 (gt v ((b.length-1:Nat):Int)))+1))))) fun b8=>(
      match b8 with
      |(O,I)=>(
       gdO (inR C M.length) (
       J (O,M.set C.toNat (aa .u32 I),Jt (C-1))
       )
      ))
     )
     )
     )
     )
     )
     )
     )
     )
    ) (
     some ((E,M))
    )
   )) (r0,List.replicate m (0:Int),j0)) (FG v A m):=by
 subst a8;rw[lb];have b9:0<vl v:=jL U (by rintro rfl;simp at lv);have e6:=gL U.dig;refine dx (fun x:List Int×List Int×Int=>∃k:Nat,x.2.2=(k:Int)-1/\k<=m/\Can x.1/\vl x.1<vl v/\x.2.1.length=m/\Dig x.2.1/\(∀i,i<k->x.2.1.getD i 0=0)/\vl A=vk A k+pB k*vl x.1+vl x.2.1*vl v) (fun x=>(x.2.2+1).toNat) ?_ n _
  ⟨m,rfl,Nat.le_refl _,h0,h1,by simp,qb _,fun i _=>uT,by simp only;rw[vg,h2];have:=fZ A m;omega⟩ (by simp only;omega)
 rintro again ⟨r,q,x⟩ ⟨k,hx,k1,k2,k3,k4,k5,k6,k7⟩ ih;simp only at hx k2 k3 k4 k5 k6 k7;subst hx;dsimp only;refine Ok.cd (fun h=>?_) (fun h=>?_)
 ·have hk:=dcT h;obtain⟨j,rfl⟩:∃j,k=j+1:=⟨k-1,by omega⟩;have ej:(((j+1:Nat):Int)-1)=(j:Int):=by omega
  rw[ej];refine Ok.gd (by rw[bb];simp;omega) ?_;have dA:=cI hA j;have lr:r.length<=350:=by
   by_cases hl:r.length<=v.length
   ·omega
   ·have:=cr U.dig k2 (by omega);omega
  rw[dN];refine Ok.bd (AE hn k2.dig (by omega) dA) ?_;rintro z ⟨z1,z2⟩;have hW:vl z<1000000000*vl v:=by omega
  have lz:z.length<=v.length+1:=kK z1 (by rw[cL];omega);rw[mQ z1.dig,mQ z1.dig];refine Ok.bde rfl (Ok.bde rfl ?_);refine Ok.gd (by rw[bb];simp;omega) ?_;rw[dN];have d1:=cI U.dig (v.length-1);have c1:=cI z1.dig (v.length-1);have c2:=cI z1.dig v.length;have ez:=fZ z (v.length-1);have c0:=iy z (v.length-1);rw[(by omega:v.length-1+1=v.length)]at c0;have c3:=iy z v.length;rw[List.drop_of_length_le (by omega:z.length<=v.length+1)]at c3;have ev:=fZ v (v.length-1);have c4:=iy v (v.length-1);rw[List.drop_of_length_le (by omega:v.length<=v.length-1+1)]at c4;have h3:vl ([]:List Int)=0:=rfl;have h4:=jC z1.dig (v.length-1);have c5:=ui z1.dig (v.length-1);have h5:=jC U.dig (v.length-1);have c6:=ui U.dig (v.length-1);have hP:=gM (v.length-1);have c7:vl (z.drop (v.length-1))=z.getD (v.length-1) 0+1000000000*z.getD v.length 0:=by omega
  have c8:vl (v.drop (v.length-1))=v.getD (v.length-1) 0:=by omega
  rw[c7]at ez;rw[c8]at ev;obtain⟨P,c9⟩:∃P,pB (v.length-1)=P:=⟨_,rfl⟩;obtain⟨t,ht⟩:∃t,v.getD (v.length-1) 0=t:=⟨_,rfl⟩;rw[ht]at a7 d1 ev ⊢;rw[c9]at ez ev c5 c6 hP;rw[aE (n:=t) (by omega) (by omega),aE (n:=t+1) (by omega) (by omega),aE (n:=z.getD v.length 0*1000000000) (by omega) (by omega),aE (n:=z.getD v.length 0*1000000000+z.getD (v.length-1) 0) (by omega) (by omega)];refine Ok.gd (by rw[decide_eq_false (by omega)];rfl) ?_;obtain⟨T,hT⟩:∃T,z.getD v.length 0*1000000000+z.getD (v.length-1) 0=T:=⟨_,rfl⟩;rw[hT,(pd (by omega)).1];have eT:z.getD (v.length-1) 0+1000000000*z.getD v.length 0=T:=by omega
  rw[eT]at ez;obtain⟨g,hg⟩:∃g,T / (t+1)=g:=⟨_,rfl⟩;have hm:=Int.emod_add_mul_ediv T (t+1);have h6:=Int.emod_nonneg T (by omega:t+1≠0);have h7:=Int.emod_lt_of_pos T (by omega:0<t+1);rw[hg]at hm ⊢;have S:0<=g:=by rw[<-hg];exact Int.ediv_nonneg (by omega) (by omega)
  have e3:(t+1)*g=g*(t+1):=Int.mul_comm _ _;have h8:g*vl v<=vl z:=by
   have a1:g*vl v<=g*(P*(t+1)):=mlT (by rw[Int.mul_add];omega) S;have a2:g*(P*(t+1))=P*(g*(t+1)):=by grind
   have a3:P*(g*(t+1))<=P*T:=mlT (by omega) (by omega);omega
  have e4:g<1000000000:=by
   by_cases hh:g<1000000000
   ·exact hh
   ·have:1000000000*vl v<=g*vl v:=mrT (by omega) (by omega);omega
  have e7:vl z-g*vl v<10*vl v:=by
   have a1:P*(T+1)<=P*((g+1)*(t+1)):=mlT (by
    have:(g+1)*(t+1)=g*(t+1)+(t+1):=by grind
    omega) (by omega)
   have a2:P*((g+1)*(t+1))=(g+1)*(P*t)+(g+1)*P:=by grind
   have a3:(g+1)*(P*t)<=(g+1)*vl v:=mlT (by omega) (by omega);have a4:(g+1)*P<=1000000000*P:=mrT (by omega) (by omega);have a5:P*500000000<=P*t:=mlT (by omega) (by omega);have a6:(g+1)*vl v=g*vl v+vl v:=by grind
   rw[Int.mul_add P T 1]at a1;omega
  rw[aE (n:=g) (by omega) (by omega)];refine Ok.bd (uJ hn U.dig (by omega) S e4) ?_;rintro y ⟨y1,y2⟩;rw[Int.mul_comm]at y2;have ly:y.length<=z.length:=by
   by_cases hl:y.length<=z.length
   ·exact hl
   ·have:=cr z1.dig y1 (by omega);omega
  refine Ok.bd (mS hn z1.dig y1.dig (by omega) ly (by omega)) ?_;rintro s ⟨s1,s2⟩;have ls:s.length<=400:=by
   by_cases hl:s.length<=400
   ·exact hl
   ·have h9:=cr z1.dig s1 (by omega);have:=Int.mul_nonneg S (by omega:0<=vl v);omega
  refine Ok.bd (EM hn U s1 (by omega) ls b9 (by omega) ⟨S,by omega⟩) ?_;rintro⟨r1,g1⟩ ⟨b1,b2,b3,b4⟩;simp only at b1 b2 b3 b4;dsimp only;have b5:vl r1+g1*vl v=vl z:=by omega
  have j1:=aZ b1.dig;have e5:g1<1000000000:=by
   by_cases hh:g1<1000000000
   ·exact hh
   ·have:1000000000*vl v<=g1*vl v:=mrT (by omega) (by omega);omega
  refine Ok.gd (by rw[bb];simp;omega) ?_;rw[bj (n:=g1) (by omega) (by omega),Int.toNat_natCast,wrap64_in (n:=(j:Int)-1) (by omega) (by omega)];refine ih _ ⟨j,rfl,by omega,b1,b2,by simpa using k4,jN k5 ⟨by omega,e5⟩,?_,?_⟩ (by simp)
  ·intro i hi;simp only;rw[iR (by omega)];exact k6 i (by omega)
  ·simp only;rw[mq (by omega),k6 j (by omega)];rw[fK,cL]at k7;rw[k7];have:A.getD j 0=vl r1+g1*vl v-1000000000*vl r:=by omega
   rw[this];grind
 ·have hk:=dcF h;obtain rfl:k=0:=by omega
  rw[ji]at k7;have e1:pB 0=1:=rfl;rw[e1]at k7;exact ar.2 ⟨k2,k3,k5,k4,by simp only;omega⟩
end Go.L.R

