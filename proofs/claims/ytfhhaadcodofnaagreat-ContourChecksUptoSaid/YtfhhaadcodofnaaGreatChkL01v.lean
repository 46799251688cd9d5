import Derived.Test.YtfhhaadcodofnaaGreatChkL01s
import Derived.Test.YtfhhaadcodofnaaGreatPl6Chks
set_option linter.all false
namespace Go.L.R
open Go Go.Eng Go.L
theorem pU{m d:Int}(h:0<=m):m.tdiv d=m / d/\m.tmod d=m%d:=⟨Int.tdiv_eq_ediv_of_nonneg h,Int.tmod_eq_emod_of_nonneg h⟩
theorem zx{n:Nat}{g:List Int}(m:1000<=n)(hd:Dig g)(q:g.length<=900):Ok (ba n false g) fun z=>Can z.Groups/\vl z.Groups=vl g:=
 (eM m false hd q).mono fun z j=>⟨j.1,by have h1:=iI j;have h2:=bn hd;simp only[Bool.false_eq_true,if_false]at h1;omega⟩
theorem oY{n:Nat}{a:List Int}{d:Int}(Y:1000<=n)(ha:Dig a)(la:a.length<=900)(hd:0<d)(a1:d<=1000000000):Ok (fG n a d) fun r=>Can r.1/\(0<=r.2/\r.2<d)/\vl r.1*d+r.2=vl a:=by
 unfold fG;refine Ok.gd (by simp) (Ok.gd (by simp;omega) (Ok.gd (by simp;omega) ?_));refine Ok.bd (R:=fun r=>Dig r.1/\r.1.length=a.length/\(0<=r.2/\r.2<d)/\vl r.1*d+r.2=vl a) ?_ ?_
 ·refine eE (fun x:List Int×Int×Int=>∃k:Nat,x.2.2=(k:Int)-1/\k<=a.length/\x.1.length=a.length/\Dig x.1/\(∀i,i<k->x.1.getD i 0=0)/\(0<=x.2.1/\x.2.1<d)/\vl x.1*d+pB k*x.2.1=vl a-vk a k) (fun x=>(x.2.2+1).toNat) ?_ n _
   ⟨a.length,by simp only;rw[wrap64_in (by omega) (by omega)],Nat.le_refl _,by simp,rI _,fun i _=>vR,⟨Int.le_refl _,hd⟩,by simp only;rw[ia (Nat.le_refl _),vK];omega⟩ (by simp only;rw[wrap64_in (by omega) (by omega)];omega)
  rintro again ⟨q,r,x⟩ ⟨k,hx,h1,h2,D,E,T,I⟩ ih;simp only at hx h2 D E T I;subst hx;dsimp only;refine Ok.cd (fun h=>?_) (fun h=>?_)
  ·have hk:=dcT h;obtain⟨j,rfl⟩:∃j,k=j+1:=⟨k-1,by omega⟩;have ej:(((j+1:Nat):Int)-1)=(j:Int):=by omega
   rw[ej];refine Ok.gd (by rw[bj];simp;omega) (Ok.gd (by rw[decide_eq_false (by omega)];rfl) (Ok.gd (by rw[bj];simp;omega) ?_));rw[dY];have da:=cW ha j;rw[aI (n:=r*1000000000) (by omega) (by omega),aI (n:=a.getD j 0) (by omega) (by omega),aI (n:=r*1000000000+a.getD j 0) (by omega) (by omega)];generalize hs:r*1000000000+a.getD j 0=s;have m:0<=s:=by omega
   rw[(pU m).1,(pU m).2];have hm:=Int.emod_add_mul_ediv s d;have J:=Int.emod_nonneg s (by omega:d≠0);have N:=Int.emod_lt_of_pos s hd;have C:0<=s / d:=Int.ediv_nonneg m (by omega);have O:s / d<1000000000:=(Int.ediv_lt_iff_lt_mul hd).2 (by omega);rw[aI C (by omega),bt C (by omega),Int.toNat_natCast,wrap64_in (n:=(j:Int)-1) (by omega) (by omega)];refine ih _ ⟨j,rfl,by omega,by simpa using h2,ku D ⟨C,O⟩,?_,⟨J,N⟩,?_⟩ (by simp)
   ·intro i hi;simp only;rw[ju (by omega)];exact E i (by omega)
   ·simp only;rw[np (by omega),E j (by omega)];rw[gp,df]at I;rw[<-hs]at hm;grind
  ·have hk:=dcF h;obtain rfl:k=0:=by omega
   rw[jK]at I;have:pB 0=1:=rfl;rw[this]at I;exact aw.2 ⟨D,h2,T,by simp only;omega⟩
 ·rintro⟨q,r⟩ ⟨h1,h2,D,E⟩;simp only at h1 h2 D E;dsimp only;refine Ok.bd (zx Y h1 (by omega)) fun z U=>aw.2 ⟨U.1,D,?_⟩
  simp only;rw[U.2];exact E
theorem vT{n:Nat}{a:List Int}{d:Int}(E:1000<=n)(ha:Dig a)(O:a.length<=800)(hd:0<=d)(I:d<1000000000):Ok (cH n a d) fun r=>Can r/\vl r=vl a*d:=by
 unfold cH;refine Ok.bd (R:=fun r=>Dig r.1/\r.1.length=a.length/\(0<=r.2/\r.2<1000000000)/\vl r.1+pB a.length*r.2=vl a*d) ?_ ?_
 ·refine eE (fun x:List Int×Int×Int=>∃k:Nat,x.2.2=(k:Int)/\k<=a.length/\x.1.length=k/\Dig x.1/\(0<=x.2.1/\x.2.1<1000000000)/\vl x.1+pB k*x.2.1=vk a k*d) (fun x=>a.length-x.2.2.toNat) ?_ n _
   ⟨0,rfl,by omega,rfl,oA,by simp,by simp[jK,vl]⟩ (by simp;omega)
  rintro again ⟨out,c,x⟩ ⟨k,hx,h1,h2,j,m,C⟩ J;simp only at hx h2 j m C;subst hx;dsimp only;refine Ok.cd (fun h=>?_) (fun h=>?_)
  ·have hk:k<a.length:=by have:=dcT h;omega
   refine Ok.gd (by rw[bj];simpa using hk) (Ok.gd (by simp;omega) (Ok.gd (by simp;omega) ?_));rw[dY];have N:=cW ha k;have m1:0<=a.getD k 0*d:=Int.mul_nonneg N.1 hd;have m2:a.getD k 0*d<=999999999*999999999:=Int.mul_le_mul (by omega) (by omega) hd (by omega);rw[aI (n:=a.getD k 0) (by omega) (by omega),aI (n:=a.getD k 0*d) (by omega) (by omega),aI (n:=a.getD k 0*d+c) (by omega) (by omega)];generalize hs:a.getD k 0*d+c=s;have q:0<=s:=by omega
   rw[(pU q).1,(pU q).2,aI (n:=s / 1000000000) (by omega) (by omega),bt (n:=s%1000000000) (by omega) (by omega),kp (by omega)];refine J _ ⟨k+1,rfl,by omega,by simp;omega,lN.2 ⟨j,gI.2 (by omega)⟩,by simp only;omega,?_⟩ (by simp;omega);simp only;rw[mR,iP,h2,gp,df];have:s%1000000000=a.getD k 0*d+c-1000000000*(s / 1000000000):=by omega
   rw[this];grind
  ·have hk:=dcF h;obtain rfl:k=a.length:=by omega
   rw[ia (Nat.le_refl _)]at C;exact aw.2 ⟨j,h2,m,C⟩
 ·rintro⟨out,c⟩ ⟨h1,h2,j,m⟩;simp only at h1 h2 j m;dsimp only;refine Ok.gd (by simp;omega) (Ok.gd (by simp;omega) ?_);rw[bt (by omega) (by omega)];refine Ok.bd (zx E (lN.2 ⟨h1,gI.2 (by omega)⟩) (by simp;omega)) fun z D=>aw.2 ⟨D.1,?_⟩
  rw[D.2,mR,iP,h2];exact m
theorem CW{n:Nat}{a:List Int}{d:Int}(m:1000<=n)(ha:Dig a)(q:a.length<=800)(hd:0<=d/\d<1000000000):Ok (eU n a d) fun r=>Can r/\vl r=d+1000000000*vl a:=by
 unfold eU;refine Ok.gd (by simp;omega) (Ok.gd (by simp;omega) ?_);refine Ok.bd (zx m (lN.2 ⟨gI.2 hd,ha⟩) (by simp;omega)) fun z j=>aw.2 ⟨j.1,?_⟩
 rw[j.2];rfl
theorem GH{n:Nat}(N:1000<=n){v r0:List Int}{g0:Int}(C:Can v)(U:Can r0)(Y:v.length<=400)(lr:r0.length<=400)(q:0<vl v)(m:vl r0<10*vl v)(hg:0<=g0/\g0<=1000000000000000000):
  Ok (aP (α:=List Int×Int) (β:=List Int×Int) n (fun again x=>match x with
   |(rest,j)=>(
         bdO (dG n rest v) fun v85=>(
         cdO (decide (v85>=0)) (
          bdO (cA n rest v) fun D=>(
          again (D,ae .u64 (j+1))
          )
         ) (
          some ((rest,j))
         )
         )
    )) (r0,g0)) fun r=>Can r.1/\vl r.1<vl v/\g0<=r.2/\vl r.1+r.2*vl v=vl r0+g0*vl v:=by
 refine eE (fun x:List Int×Int=>Can x.1/\x.1.length<=400/\g0<=x.2/\x.2+vl x.1 / vl v=g0+vl r0 / vl v/\vl x.1+x.2*vl v=vl r0+g0*vl v) (fun x=>(vl x.1 / vl v).toNat) ?_ n _ ⟨U,lr,Int.le_refl _,rfl,rfl⟩ ?_
 ·rintro again ⟨r,g⟩ ⟨h1,h2,O,h4,T⟩ ih;simp only at h1 h2 O h4 T;dsimp only;refine Ok.bde (Af N h1 C h2 Y) ?_;have hs:=di (vl r-vl v);have E:vl r0 / vl v<=10:=Int.le_of_lt ((Int.ediv_lt_iff_lt_mul q).2 m);have I:=bn h1.dig;have a1:0<=vl r / vl v:=Int.ediv_nonneg I (by omega);refine Ok.cd (fun h=>?_) (fun h=>?_)
  ·have hle:vl v<=vl r:=by have:=dcT h;omega
   have ll:v.length<=r.length:=by
    by_cases J:v.length<=r.length
    ·exact J
    ·have:=cS h1.dig C (by omega);omega
   refine Ok.bd (qC N h1.dig C.dig h2 ll hle) ?_;rintro z ⟨z1,z2⟩;have lz:z.length<=400:=by
    by_cases J:z.length<=400
    ·exact J
    ·have:=cS h1.dig z1 (by omega);omega
   have ed:vl z / vl v=vl r / vl v-1:=by
    rw[z2,(by omega:vl r-vl v=vl r+(-1)*vl v),Int.add_mul_ediv_right _ _ (by omega)];omega
   have a6:0<=vl z / vl v:=Int.ediv_nonneg (bn z1.dig) (by omega);rw[aI (n:=g+1) (by omega) (by omega)];exact ih _ ⟨z1,lz,by simp only;omega,by simp only;omega,by simp only;rw[z2];grind⟩ (by simp only;omega)
  ·have m:vl r<vl v:=by have:=dcF h;omega
   exact aw.2 ⟨h1,m,O,T⟩
 ·have E:vl r0 / vl v<10:=(Int.ediv_lt_iff_lt_mul q).2 m;simp only;omega
end Go.L.R


set_option linter.all false
namespace Go.L.R
open Go Go.Eng Go.L
def IP(v A:List Int)(m:Nat)(r:List Int×List Int):Prop:=Can r.1/\vl r.1<vl v/\Dig r.2/\r.2.length=m/\vl A=vl r.1+vl r.2*vl v
theorem Gt{n:Nat}(hn:1000<=n){b v A r0:List Int}{m:Nat}(hv:Can v)(lb:b.length=v.length)(b6:500000000<=v.getD (v.length-1) 0)(lv:2<=v.length)(h4:v.length<=350)(hA:Dig A)(lA:A.length+1=v.length+m)(h5:A.length<=350)(h0:Can r0)(h1:vl r0<vl v)(h2:vl r0=vl (A.drop m)){j0:Int}(b7:j0=(m:Int)-1):
  Ok (aP (α:=List Int×List Int×Int) (β:=List Int×List Int) n (fun N (I,O,D)=>(
    cdO (decide (D>=0)) (
     gdO (inR D A.length) (
     bdO (eU n I (gt A D)) fun a8=>(
     bdO (bg n a8 (b.length:Int)) fun b0=>(
     bdO (bg n a8 ((b.length-1:Nat):Int)) fun v67=>(
     gdO (inR ((b.length-1:Nat):Int) v.length) (
     gdO (!decide (ae .u64 ((ae .u64 (gt v ((b.length-1:Nat):Int)))+1)=0)) (
     bdO (cH n v (ae .u64 ((ae .u64 ((ae .u64 (b0*1000000000))+v67)).tdiv (ae .u64 ((ae .u64 (gt v ((b.length-1:Nat):Int)))+1))))) fun b8=>(
     bdO (cA n a8 b8) fun b9=>(
     bdO (aP (α:=List Int×Int) (β:=List Int×Int) n (fun U (C,E)=>(
      bdO (dG n C v) fun v85=>(
      cdO (decide (v85>=0)) (
       bdO (cA n C v) fun c0=>(
       U (c0,ae .u64 (E+1))
       )
      ) (
       some ((C,E))
      )
      )
     )) (b9,ae .u64 ((ae .u64 ((ae .u64 (b0*1000000000))+v67)).tdiv (ae .u64 ((ae .u64 (gt v ((b.length-1:Nat):Int)))+1))))) fun c3=>(
      match c3 with
      |(Y,J)=>(
       gdO (inR D O.length) (
       N (Y,O.set D.toNat (ae .u32 J),Ki (D-1))
       )
      ))
     )
     )
     )
     )
     )
     )
     )
     )
    ) (
     some ((I,O))
    )
   )) (r0,List.replicate m (0:Int),j0)) (IP v A m):=by
 subst b7;rw[lb];have c4:0<vl v:=km hv (by rintro rfl;simp at lv);have e9:=iZ hv.dig;refine eE (fun x:List Int×List Int×Int=>∃k:Nat,x.2.2=(k:Int)-1/\k<=m/\Can x.1/\vl x.1<vl v/\x.2.1.length=m/\Dig x.2.1/\(∀i,i<k->x.2.1.getD i 0=0)/\vl A=vk A k+pB k*vl x.1+vl x.2.1*vl v) (fun x=>(x.2.2+1).toNat) ?_ n _
  ⟨m,rfl,Nat.le_refl _,h0,h1,by simp,rI _,fun i _=>vR,by simp only;rw[vK,h2];have:=gP A m;omega⟩ (by simp only;omega)
 rintro again ⟨r,q,x⟩ ⟨k,hx,k1,k2,k3,k4,k5,k6,k7⟩ ih;simp only at hx k2 k3 k4 k5 k6 k7;subst hx;dsimp only;refine Ok.cd (fun h=>?_) (fun h=>?_)
 ·have hk:=dcT h;obtain⟨j,rfl⟩:∃j,k=j+1:=⟨k-1,by omega⟩;have ej:(((j+1:Nat):Int)-1)=(j:Int):=by omega
  rw[ej];refine Ok.gd (by rw[bj];simp;omega) ?_;have dA:=cW hA j;have lr:r.length<=350:=by
   by_cases hl:r.length<=v.length
   ·omega
   ·have:=cS hv.dig k2 (by omega);omega
  rw[dY];refine Ok.bd (CW hn k2.dig (by omega) dA) ?_;rintro z ⟨z1,z2⟩;have hW:vl z<1000000000*vl v:=by omega
  have lz:z.length<=v.length+1:=mM z1 (by rw[df];omega);rw[nB z1.dig,nB z1.dig];refine Ok.bde rfl (Ok.bde rfl ?_);refine Ok.gd (by rw[bj];simp;omega) ?_;rw[dY];have d1:=cW hv.dig (v.length-1);have c1:=cW z1.dig (v.length-1);have c2:=cW z1.dig v.length;have ez:=gP z (v.length-1);have c5:=iW z (v.length-1);rw[(by omega:v.length-1+1=v.length)]at c5;have c6:=iW z v.length;rw[List.drop_of_length_le (by omega:z.length<=v.length+1)]at c6;have ev:=gP v (v.length-1);have c7:=iW v (v.length-1);rw[List.drop_of_length_le (by omega:v.length<=v.length-1+1)]at c7;have h6:vl ([]:List Int)=0:=rfl;have h7:=jW z1.dig (v.length-1);have c8:=vn z1.dig (v.length-1);have h8:=jW hv.dig (v.length-1);have c9:=vn hv.dig (v.length-1);have hP:=iO (v.length-1);have e3:vl (z.drop (v.length-1))=z.getD (v.length-1) 0+1000000000*z.getD v.length 0:=by omega
  have e4:vl (v.drop (v.length-1))=v.getD (v.length-1) 0:=by omega
  rw[e3]at ez;rw[e4]at ev;obtain⟨P,e5⟩:∃P,pB (v.length-1)=P:=⟨_,rfl⟩;obtain⟨t,ht⟩:∃t,v.getD (v.length-1) 0=t:=⟨_,rfl⟩;rw[ht]at b6 d1 ev ⊢;rw[e5]at ez ev c8 c9 hP;rw[aI (n:=t) (by omega) (by omega),aI (n:=t+1) (by omega) (by omega),aI (n:=z.getD v.length 0*1000000000) (by omega) (by omega),aI (n:=z.getD v.length 0*1000000000+z.getD (v.length-1) 0) (by omega) (by omega)];refine Ok.gd (by rw[decide_eq_false (by omega)];rfl) ?_;obtain⟨T,hT⟩:∃T,z.getD v.length 0*1000000000+z.getD (v.length-1) 0=T:=⟨_,rfl⟩;rw[hT,(pU (by omega)).1];have eT:z.getD (v.length-1) 0+1000000000*z.getD v.length 0=T:=by omega
  rw[eT]at ez;obtain⟨g,hg⟩:∃g,T / (t+1)=g:=⟨_,rfl⟩;have hm:=Int.emod_add_mul_ediv T (t+1);have j1:=Int.emod_nonneg T (by omega:t+1≠0);have j2:=Int.emod_lt_of_pos T (by omega:0<t+1);rw[hg]at hm ⊢;have a7:0<=g:=by rw[<-hg];exact Int.ediv_nonneg (by omega) (by omega)
  have e6:(t+1)*g=g*(t+1):=Int.mul_comm _ _;have j3:g*vl v<=vl z:=by
   have a1:g*vl v<=g*(P*(t+1)):=mlT (by rw[Int.mul_add];omega) a7;have a2:g*(P*(t+1))=P*(g*(t+1)):=by grind
   have a3:P*(g*(t+1))<=P*T:=mlT (by omega) (by omega);omega
  have e7:g<1000000000:=by
   by_cases hh:g<1000000000
   ·exact hh
   ·have:1000000000*vl v<=g*vl v:=mrT (by omega) (by omega);omega
  have h3:vl z-g*vl v<10*vl v:=by
   have a1:P*(T+1)<=P*((g+1)*(t+1)):=mlT (by
    have:(g+1)*(t+1)=g*(t+1)+(t+1):=by grind
    omega) (by omega)
   have a2:P*((g+1)*(t+1))=(g+1)*(P*t)+(g+1)*P:=by grind
   have a3:(g+1)*(P*t)<=(g+1)*vl v:=mlT (by omega) (by omega);have a4:(g+1)*P<=1000000000*P:=mrT (by omega) (by omega);have a5:P*500000000<=P*t:=mlT (by omega) (by omega);have a6:(g+1)*vl v=g*vl v+vl v:=by grind
   rw[Int.mul_add P T 1]at a1;omega
  rw[aI (n:=g) (by omega) (by omega)];refine Ok.bd (vT hn hv.dig (by omega) a7 e7) ?_;rintro y ⟨y1,y2⟩;rw[Int.mul_comm]at y2;have ly:y.length<=z.length:=by
   by_cases hl:y.length<=z.length
   ·exact hl
   ·have:=cS z1.dig y1 (by omega);omega
  refine Ok.bd (qC hn z1.dig y1.dig (by omega) ly (by omega)) ?_;rintro s ⟨s1,s2⟩;have ls:s.length<=400:=by
   by_cases hl:s.length<=400
   ·exact hl
   ·have h9:=cS z1.dig s1 (by omega);have:=Int.mul_nonneg a7 (by omega:0<=vl v);omega
  refine Ok.bd (GH hn hv s1 (by omega) ls c4 (by omega) ⟨a7,by omega⟩) ?_;rintro⟨r1,g1⟩ ⟨b1,b2,b3,b4⟩;simp only at b1 b2 b3 b4;dsimp only;have b5:vl r1+g1*vl v=vl z:=by omega
  have j4:=bn b1.dig;have e8:g1<1000000000:=by
   by_cases hh:g1<1000000000
   ·exact hh
   ·have:1000000000*vl v<=g1*vl v:=mrT (by omega) (by omega);omega
  refine Ok.gd (by rw[bj];simp;omega) ?_;rw[bt (n:=g1) (by omega) (by omega),Int.toNat_natCast,wrap64_in (n:=(j:Int)-1) (by omega) (by omega)];refine ih _ ⟨j,rfl,by omega,b1,b2,by simpa using k4,ku k5 ⟨by omega,e8⟩,?_,?_⟩ (by simp)
  ·intro i hi;simp only;rw[ju (by omega)];exact k6 i (by omega)
  ·simp only;rw[np (by omega),k6 j (by omega)];rw[gp,df]at k7;rw[k7];have:A.getD j 0=vl r1+g1*vl v-1000000000*vl r:=by omega
   rw[this];grind
 ·have hk:=dcF h;obtain rfl:k=0:=by omega
  rw[jK]at k7;have e1:pB 0=1:=rfl;rw[e1]at k7;exact aw.2 ⟨k2,k3,k5,k4,by simp only;omega⟩
end Go.L.R

