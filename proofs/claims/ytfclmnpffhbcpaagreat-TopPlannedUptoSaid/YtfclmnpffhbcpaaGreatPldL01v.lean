import Derived.Test.YtfclmnpffhbcpaaGreatPldL01s
import Derived.Test.YtfclmnpffhbcpaaGreatPl6Plds
set_option linter.all false
namespace Go.L.R
open Go Go.Eng Go.L
theorem qi{m d:Int}(h:0<=m):m.tdiv d=m / d/\m.tmod d=m%d:=⟨Int.tdiv_eq_ediv_of_nonneg h,Int.tmod_eq_emod_of_nonneg h⟩
theorem yJ{n:Nat}{g:List Int}(C:1000<=n)(j:Dig g)(D:g.length<=900):Ok (bx n false g) fun z=>Can z.Groups/\vl z.Groups=vl g:=
 (eD C false j D).mono fun z q=>⟨q.1,by have h1:=iJ q;have E:=bI j;simp only[Bool.false_eq_true,if_false]at h1;omega⟩
theorem pC{n:Nat}{a:List Int}{d:Int}(hn:1000<=n)(ha:Dig a)(la:a.length<=900)(O:0<d)(a1:d<=1000000000):Ok (fQ n a d) fun r=>Can r.1/\(0<=r.2/\r.2<d)/\vl r.1*d+r.2=vl a:=by
 unfold fQ;refine Ok.gd (by simp) (Ok.gd (by simp;omega) (Ok.gd (by simp;omega) ?_));refine Ok.bd (R:=fun r=>Dig r.1/\r.1.length=a.length/\(0<=r.2/\r.2<d)/\vl r.1*d+r.2=vl a) ?_ ?_
 ·refine ee (fun x:List Int×Int×Int=>∃k:Nat,x.2.2=(k:Int)-1/\k<=a.length/\x.1.length=a.length/\Dig x.1/\(∀i,i<k->x.1.getD i 0=0)/\(0<=x.2.1/\x.2.1<d)/\vl x.1*d+pB k*x.2.1=vl a-vk a k) (fun x=>(x.2.2+1).toNat) ?_ n _
   ⟨a.length,by simp only;rw[wrap64_in (by omega) (by omega)],Nat.le_refl _,by simp,ry _,fun i _=>vH,⟨Int.le_refl _,O⟩,by simp only;rw[gV (Nat.le_refl _),we];omega⟩ (by simp only;rw[wrap64_in (by omega) (by omega)];omega)
  rintro again ⟨q,r,x⟩ ⟨k,Y,h1,J,E,I,Z,N⟩ ih;simp only at Y J E I Z N;subst Y;dsimp only;refine Ok.cd (fun h=>?_) (fun h=>?_)
  ·have hk:=dcT h;obtain⟨j,rfl⟩:∃j,k=j+1:=⟨k-1,by omega⟩;have ej:(((j+1:Nat):Int)-1)=(j:Int):=by omega
   rw[ej];refine Ok.gd (by rw[bm];simp;omega) (Ok.gd (by rw[decide_eq_false (by omega)];rfl) (Ok.gd (by rw[bm];simp;omega) ?_));rw[fa];have da:=dC ha j;rw[aO (n:=r*1000000000) (by omega) (by omega),aO (n:=a.getD j 0) (by omega) (by omega),aO (n:=r*1000000000+a.getD j 0) (by omega) (by omega)];generalize hs:r*1000000000+a.getD j 0=s;have C:0<=s:=by omega
   rw[(qi C).1,(qi C).2];have hm:=Int.emod_add_mul_ediv s d;have S:=Int.emod_nonneg s (by omega:d≠0);have T:=Int.emod_lt_of_pos s O;have D:0<=s / d:=Int.ediv_nonneg C (by omega);have U:s / d<1000000000:=(Int.ediv_lt_iff_lt_mul O).2 (by omega);rw[aO D (by omega),bU D (by omega),Int.toNat_natCast,wrap64_in (n:=(j:Int)-1) (by omega) (by omega)];refine ih _ ⟨j,rfl,by omega,by simpa using J,kD E ⟨D,U⟩,?_,⟨S,T⟩,?_⟩ (by simp)
   ·intro i hi;simp only;rw[jL (by omega)];exact I i (by omega)
   ·simp only;rw[nz (by omega),I j (by omega)];rw[gk,dE]at N;rw[<-hs]at hm;grind
  ·have hk:=dcF h;obtain rfl:k=0:=by omega
   rw[jS]at N;have:pB 0=1:=rfl;rw[this]at N;exact aC.2 ⟨E,J,Z,by simp only;omega⟩
 ·rintro⟨q,r⟩ ⟨h1,J,E,I⟩;simp only at h1 J E I;dsimp only;refine Ok.bd (yJ hn h1 (by omega)) fun z hz=>aC.2 ⟨hz.1,E,?_⟩
  simp only;rw[hz.2];exact I
theorem vK{n:Nat}{a:List Int}{d:Int}(O:1000<=n)(S:Dig a)(Z:a.length<=800)(I:0<=d)(T:d<1000000000):Ok (dh n a d) fun r=>Can r/\vl r=vl a*d:=by
 unfold dh;refine Ok.bd (R:=fun r=>Dig r.1/\r.1.length=a.length/\(0<=r.2/\r.2<1000000000)/\vl r.1+pB a.length*r.2=vl a*d) ?_ ?_
 ·refine ee (fun x:List Int×Int×Int=>∃k:Nat,x.2.2=(k:Int)/\k<=a.length/\x.1.length=k/\Dig x.1/\(0<=x.2.1/\x.2.1<1000000000)/\vl x.1+pB k*x.2.1=vk a k*d) (fun x=>a.length-x.2.2.toNat) ?_ n _
   ⟨0,rfl,by omega,rfl,oO,by simp,by simp[jS,vl]⟩ (by simp;omega)
  rintro again ⟨out,c,x⟩ ⟨k,J,h1,j,q,C,E⟩ U;simp only at J j q C E;subst J;dsimp only;refine Ok.cd (fun h=>?_) (fun h=>?_)
  ·have hk:k<a.length:=by have:=dcT h;omega
   refine Ok.gd (by rw[bm];simpa using hk) (Ok.gd (by simp;omega) (Ok.gd (by simp;omega) ?_));rw[fa];have Y:=dC S k;have m1:0<=a.getD k 0*d:=Int.mul_nonneg Y.1 I;have m2:a.getD k 0*d<=999999999*999999999:=Int.mul_le_mul (by omega) (by omega) I (by omega);rw[aO (n:=a.getD k 0) (by omega) (by omega),aO (n:=a.getD k 0*d) (by omega) (by omega),aO (n:=a.getD k 0*d+c) (by omega) (by omega)];generalize hs:a.getD k 0*d+c=s;have D:0<=s:=by omega
   rw[(qi D).1,(qi D).2,aO (n:=s / 1000000000) (by omega) (by omega),bU (n:=s%1000000000) (by omega) (by omega),kK (by omega)];refine U _ ⟨k+1,rfl,by omega,by simp;omega,mc.2 ⟨q,gz.2 (by omega)⟩,by simp only;omega,?_⟩ (by simp;omega);simp only;rw[mQ,iQ,j,gk,dE];have:s%1000000000=a.getD k 0*d+c-1000000000*(s / 1000000000):=by omega
   rw[this];grind
  ·have hk:=dcF h;obtain rfl:k=a.length:=by omega
   rw[gV (Nat.le_refl _)]at E;exact aC.2 ⟨q,j,C,E⟩
 ·rintro⟨out,c⟩ ⟨h1,j,q,C⟩;simp only at h1 j q C;dsimp only;refine Ok.gd (by simp;omega) (Ok.gd (by simp;omega) ?_);rw[bU (by omega) (by omega)];refine Ok.bd (yJ O (mc.2 ⟨h1,gz.2 (by omega)⟩) (by simp;omega)) fun z N=>aC.2 ⟨N.1,?_⟩
  rw[N.2,mQ,iQ,j];exact C
theorem Bv{n:Nat}{a:List Int}{d:Int}(q:1000<=n)(C:Dig a)(E:a.length<=800)(D:0<=d/\d<1000000000):Ok (ff n a d) fun r=>Can r/\vl r=d+1000000000*vl a:=by
 unfold ff;refine Ok.gd (by simp;omega) (Ok.gd (by simp;omega) ?_);refine Ok.bd (yJ q (mc.2 ⟨gz.2 D,C⟩) (by simp;omega)) fun z j=>aC.2 ⟨j.1,?_⟩
 rw[j.2];rfl
theorem Fg{n:Nat}(R:1000<=n){v r0:List Int}{g0:Int}(D:Can v)(U:Can r0)(Y:v.length<=400)(Z:r0.length<=400)(C:0<vl v)(q:vl r0<10*vl v)(hg:0<=g0/\g0<=1000000000000000000):
  Ok (aV (α:=List Int×Int) (β:=List Int×Int) n (fun again x=>match x with
   |(rest,j)=>(
         bdO (dT n rest v) fun v85=>(
         cdO (decide (v85>=0)) (
          bdO (cX n rest v) fun E=>(
          again (E,af .u64 (j+1))
          )
         ) (
          some ((rest,j))
         )
         )
    )) (r0,g0)) fun r=>Can r.1/\vl r.1<vl v/\g0<=r.2/\vl r.1+r.2*vl v=vl r0+g0*vl v:=by
 refine ee (fun x:List Int×Int=>Can x.1/\x.1.length<=400/\g0<=x.2/\x.2+vl x.1 / vl v=g0+vl r0 / vl v/\vl x.1+x.2*vl v=vl r0+g0*vl v) (fun x=>(vl x.1 / vl v).toNat) ?_ n _ ⟨U,Z,Int.le_refl _,rfl,rfl⟩ ?_
 ·rintro again ⟨r,g⟩ ⟨h1,I,S,h4,T⟩ ih;simp only at h1 I S h4 T;dsimp only;refine Ok.bde (zQ R h1 D I Y) ?_;have hs:=dS (vl r-vl v);have J:vl r0 / vl v<=10:=Int.le_of_lt ((Int.ediv_lt_iff_lt_mul C).2 q);have N:=bI h1.dig;have a1:0<=vl r / vl v:=Int.ediv_nonneg N (by omega);refine Ok.cd (fun h=>?_) (fun h=>?_)
  ·have hle:vl v<=vl r:=by have:=dcT h;omega
   have ll:v.length<=r.length:=by
    by_cases O:v.length<=r.length
    ·exact O
    ·have:=de h1.dig D (by omega);omega
   refine Ok.bd (nX R h1.dig D.dig I ll hle) ?_;rintro z ⟨z1,z2⟩;have lz:z.length<=400:=by
    by_cases O:z.length<=400
    ·exact O
    ·have:=de h1.dig z1 (by omega);omega
   have ed:vl z / vl v=vl r / vl v-1:=by
    rw[z2,(by omega:vl r-vl v=vl r+(-1)*vl v),Int.add_mul_ediv_right _ _ (by omega)];omega
   have a6:0<=vl z / vl v:=Int.ediv_nonneg (bI z1.dig) (by omega);rw[aO (n:=g+1) (by omega) (by omega)];exact ih _ ⟨z1,lz,by simp only;omega,by simp only;omega,by simp only;rw[z2];grind⟩ (by simp only;omega)
  ·have q:vl r<vl v:=by have:=dcF h;omega
   exact aC.2 ⟨h1,q,S,T⟩
 ·have J:vl r0 / vl v<10:=(Int.ediv_lt_iff_lt_mul C).2 q;simp only;omega
end Go.L.R


set_option linter.all false
namespace Go.L.R
open Go Go.Eng Go.L
def Gd(v A:List Int)(m:Nat)(r:List Int×List Int):Prop:=Can r.1/\vl r.1<vl v/\Dig r.2/\r.2.length=m/\vl A=vl r.1+vl r.2*vl v
theorem D2{n:Nat}(hn:1000<=n){b v A r0:List Int}{m:Nat}(Y:Can v)(lb:b.length=v.length)(a8:500000000<=v.getD (v.length-1) 0)(lv:2<=v.length)(h3:v.length<=350)(hA:Dig A)(lA:A.length+1=v.length+m)(h4:A.length<=350)(h0:Can r0)(h1:vl r0<vl v)(h2:vl r0=vl (A.drop m)){j0:Int}(b0:j0=(m:Int)-1):
  Ok (aV (α:=List Int×List Int×Int) (β:=List Int×List Int) n (fun N (I,O,D)=>(
    cdO (decide (D>=0)) (
     gdO (inR D A.length) (
     bdO (ff n I (gt A D)) fun Z=>(
     bdO (bG n Z (b.length:Int)) fun a7=>(
     bdO (bG n Z ((b.length-1:Nat):Int)) fun v67=>(
     gdO (inR ((b.length-1:Nat):Int) v.length) (
     gdO (!decide (af .u64 ((af .u64 (gt v ((b.length-1:Nat):Int)))+1)=0)) (
     bdO (dh n v (af .u64 ((af .u64 ((af .u64 (a7*1000000000))+v67)).tdiv (af .u64 ((af .u64 (gt v ((b.length-1:Nat):Int)))+1))))) fun b6=>(
     bdO (cX n Z b6) fun b7=>(
     bdO (aV (α:=List Int×Int) (β:=List Int×Int) n (fun R (C,E)=>(
      bdO (dT n C v) fun v85=>(
      cdO (decide (v85>=0)) (
       bdO (cX n C v) fun b8=>(
       R (b8,af .u64 (E+1))
       )
      ) (
       some ((C,E))
      )
      )
     )) (b7,af .u64 ((af .u64 ((af .u64 (a7*1000000000))+v67)).tdiv (af .u64 ((af .u64 (gt v ((b.length-1:Nat):Int)))+1))))) fun b9=>(
      match b9 with
      |(S,J)=>(
       gdO (inR D O.length) (
       N (S,O.set D.toNat (af .u32 J),Hy (D-1))
       )
      ))
     )
     )
     )
     )
     )
     )
     )
     )
    ) (
     some ((I,O))
    )
   )) (r0,List.replicate m (0:Int),j0)) (Gd v A m):=by
 subst b0;rw[lb];have c0:0<vl v:=kJ Y (by rintro rfl;simp at lv);have e8:=iu Y.dig;refine ee (fun x:List Int×List Int×Int=>∃k:Nat,x.2.2=(k:Int)-1/\k<=m/\Can x.1/\vl x.1<vl v/\x.2.1.length=m/\Dig x.2.1/\(∀i,i<k->x.2.1.getD i 0=0)/\vl A=vk A k+pB k*vl x.1+vl x.2.1*vl v) (fun x=>(x.2.2+1).toNat) ?_ n _
  ⟨m,rfl,Nat.le_refl _,h0,h1,by simp,ry _,fun i _=>vH,by simp only;rw[we,h2];have:=gK A m;omega⟩ (by simp only;omega)
 rintro again ⟨r,q,x⟩ ⟨k,hx,k1,k2,k3,k4,k5,k6,k7⟩ ih;simp only at hx k2 k3 k4 k5 k6 k7;subst hx;dsimp only;refine Ok.cd (fun h=>?_) (fun h=>?_)
 ·have hk:=dcT h;obtain⟨j,rfl⟩:∃j,k=j+1:=⟨k-1,by omega⟩;have ej:(((j+1:Nat):Int)-1)=(j:Int):=by omega
  rw[ej];refine Ok.gd (by rw[bm];simp;omega) ?_;have dA:=dC hA j;have lr:r.length<=350:=by
   by_cases hl:r.length<=v.length
   ·omega
   ·have:=de Y.dig k2 (by omega);omega
  rw[fa];refine Ok.bd (Bv hn k2.dig (by omega) dA) ?_;rintro z ⟨z1,z2⟩;have hW:vl z<1000000000*vl v:=by omega
  have lz:z.length<=v.length+1:=lW z1 (by rw[dE];omega);rw[oa z1.dig,oa z1.dig];refine Ok.bde rfl (Ok.bde rfl ?_);refine Ok.gd (by rw[bm];simp;omega) ?_;rw[fa];have d1:=dC Y.dig (v.length-1);have c1:=dC z1.dig (v.length-1);have c2:=dC z1.dig v.length;have ez:=gK z (v.length-1);have c3:=iY z (v.length-1);rw[(by omega:v.length-1+1=v.length)]at c3;have c4:=iY z v.length;rw[List.drop_of_length_le (by omega:z.length<=v.length+1)]at c4;have ev:=gK v (v.length-1);have c5:=iY v (v.length-1);rw[List.drop_of_length_le (by omega:v.length<=v.length-1+1)]at c5;have h5:vl ([]:List Int)=0:=rfl;have h6:=ks z1.dig (v.length-1);have c6:=ve z1.dig (v.length-1);have h7:=ks Y.dig (v.length-1);have c7:=ve Y.dig (v.length-1);have hP:=iv (v.length-1);have c8:vl (z.drop (v.length-1))=z.getD (v.length-1) 0+1000000000*z.getD v.length 0:=by omega
  have c9:vl (v.drop (v.length-1))=v.getD (v.length-1) 0:=by omega
  rw[c8]at ez;rw[c9]at ev;obtain⟨P,e4⟩:∃P,pB (v.length-1)=P:=⟨_,rfl⟩;obtain⟨t,ht⟩:∃t,v.getD (v.length-1) 0=t:=⟨_,rfl⟩;rw[ht]at a8 d1 ev ⊢;rw[e4]at ez ev c6 c7 hP;rw[aO (n:=t) (by omega) (by omega),aO (n:=t+1) (by omega) (by omega),aO (n:=z.getD v.length 0*1000000000) (by omega) (by omega),aO (n:=z.getD v.length 0*1000000000+z.getD (v.length-1) 0) (by omega) (by omega)];refine Ok.gd (by rw[decide_eq_false (by omega)];rfl) ?_;obtain⟨T,hT⟩:∃T,z.getD v.length 0*1000000000+z.getD (v.length-1) 0=T:=⟨_,rfl⟩;rw[hT,(qi (by omega)).1];have eT:z.getD (v.length-1) 0+1000000000*z.getD v.length 0=T:=by omega
  rw[eT]at ez;obtain⟨g,hg⟩:∃g,T / (t+1)=g:=⟨_,rfl⟩;have hm:=Int.emod_add_mul_ediv T (t+1);have h8:=Int.emod_nonneg T (by omega:t+1≠0);have j1:=Int.emod_lt_of_pos T (by omega:0<t+1);rw[hg]at hm ⊢;have U:0<=g:=by rw[<-hg];exact Int.ediv_nonneg (by omega) (by omega)
  have e5:(t+1)*g=g*(t+1):=Int.mul_comm _ _;have j2:g*vl v<=vl z:=by
   have a1:g*vl v<=g*(P*(t+1)):=mlT (by rw[Int.mul_add];omega) U;have a2:g*(P*(t+1))=P*(g*(t+1)):=by grind
   have a3:P*(g*(t+1))<=P*T:=mlT (by omega) (by omega);omega
  have e6:g<1000000000:=by
   by_cases hh:g<1000000000
   ·exact hh
   ·have:1000000000*vl v<=g*vl v:=mrT (by omega) (by omega);omega
  have e9:vl z-g*vl v<10*vl v:=by
   have a1:P*(T+1)<=P*((g+1)*(t+1)):=mlT (by
    have:(g+1)*(t+1)=g*(t+1)+(t+1):=by grind
    omega) (by omega)
   have a2:P*((g+1)*(t+1))=(g+1)*(P*t)+(g+1)*P:=by grind
   have a3:(g+1)*(P*t)<=(g+1)*vl v:=mlT (by omega) (by omega);have a4:(g+1)*P<=1000000000*P:=mrT (by omega) (by omega);have a5:P*500000000<=P*t:=mlT (by omega) (by omega);have a6:(g+1)*vl v=g*vl v+vl v:=by grind
   rw[Int.mul_add P T 1]at a1;omega
  rw[aO (n:=g) (by omega) (by omega)];refine Ok.bd (vK hn Y.dig (by omega) U e6) ?_;rintro y ⟨y1,y2⟩;rw[Int.mul_comm]at y2;have ly:y.length<=z.length:=by
   by_cases hl:y.length<=z.length
   ·exact hl
   ·have:=de z1.dig y1 (by omega);omega
  refine Ok.bd (nX hn z1.dig y1.dig (by omega) ly (by omega)) ?_;rintro s ⟨s1,s2⟩;have ls:s.length<=400:=by
   by_cases hl:s.length<=400
   ·exact hl
   ·have h9:=de z1.dig s1 (by omega);have:=Int.mul_nonneg U (by omega:0<=vl v);omega
  refine Ok.bd (Fg hn Y s1 (by omega) ls c0 (by omega) ⟨U,by omega⟩) ?_;rintro⟨r1,g1⟩ ⟨b1,b2,b3,b4⟩;simp only at b1 b2 b3 b4;dsimp only;have b5:vl r1+g1*vl v=vl z:=by omega
  have j3:=bI b1.dig;have e7:g1<1000000000:=by
   by_cases hh:g1<1000000000
   ·exact hh
   ·have:1000000000*vl v<=g1*vl v:=mrT (by omega) (by omega);omega
  refine Ok.gd (by rw[bm];simp;omega) ?_;rw[bU (n:=g1) (by omega) (by omega),Int.toNat_natCast,wrap64_in (n:=(j:Int)-1) (by omega) (by omega)];refine ih _ ⟨j,rfl,by omega,b1,b2,by simpa using k4,kD k5 ⟨by omega,e7⟩,?_,?_⟩ (by simp)
  ·intro i hi;simp only;rw[jL (by omega)];exact k6 i (by omega)
  ·simp only;rw[nz (by omega),k6 j (by omega)];rw[gk,dE]at k7;rw[k7];have:A.getD j 0=vl r1+g1*vl v-1000000000*vl r:=by omega
   rw[this];grind
 ·have hk:=dcF h;obtain rfl:k=0:=by omega
  rw[jS]at k7;have e1:pB 0=1:=rfl;rw[e1]at k7;exact aC.2 ⟨k2,k3,k5,k4,by simp only;omega⟩
end Go.L.R

