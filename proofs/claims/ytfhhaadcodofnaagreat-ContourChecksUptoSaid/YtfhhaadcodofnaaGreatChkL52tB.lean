import Derived.Test.YtfhhaadcodofnaaGreatChkL01v
import Derived.Test.YtfhhaadcodofnaaGreatChkL02pB
import Derived.Test.YtfhhaadcodofnaaGreatPl6Chks
import Derived.Test.YtfhhaadcodofnaaGreatChkL01q
set_option linter.all false
namespace Go.L.R
open Go Go.Eng Go.L
theorem Cc{n:Nat}{a b:List Int}(j:1000<=n)(ha:Can a)(hb:Can b)(D:b≠[])(la:a.length<=300)(lb:b.length<=300):Ok (dP n a b) fun r=>Can r.1/\Can r.2/\vl r.2<vl b/\vl r.1*vl b+vl r.2=vl a:=by
 unfold dP;have a8:=km hb D;have O:=bn ha.dig;have a7:0<b.length:=List.length_pos_iff.2 D;refine Ok.cd (fun h=>?_) (fun h=>?_)
 ·have T:b.length=1:=by simp at h;omega
  obtain⟨d,rfl⟩:∃d,b=[d]:=by
   match b,T with
   |[d],_=>exact⟨d,rfl⟩
  have hd:=gI.1 hb.dig;have b0:d≠0:=hb.2.1 rfl;refine Ok.gd rfl ?_;have e:gt [d] 0=d:=rfl;rw[e,aI hd.1 (by omega)];refine Ok.bd (oY j ha.dig (by omega) (by omega) (by omega)) ?_;rintro⟨q,r⟩ ⟨E,I,J⟩;simp only at E I J;dsimp only;rw[bt I.1 (by omega)];refine Ok.bd (zx j (gI.2 (by omega)) (by simp)) ?_;rintro z ⟨z1,z2⟩;rw[iP]at z2;refine aw.2 ⟨E,z1,?_,?_⟩
  ·simp only[z2,iP];exact I.2
  ·simp only[z2,iP];exact J
 ·have T:2<=b.length:=by simp at h;omega
  refine Ok.bde (Af j ha hb (by omega) (by omega)) ?_;have hs:=di (vl a-vl b);refine Ok.cd (fun h=>?_) (fun h=>?_)
  ·have U:vl a<vl b:=by have:=dcT h;omega
   exact aw.2 ⟨trivial,ha,U,by show 0*vl b+vl a=vl a;omega⟩
  ·have hle:vl b<=vl a:=by have:=dcF h;omega
   rw[kG (k:=b.length) (by omega) (by omega),dY];have dt:=cW hb.dig (b.length-1);obtain⟨t1,t2,t3,t4⟩:=vr hb (by omega);rw[aI (n:=b.getD (b.length-1) 0) (by omega) (by omega),aI (n:=b.getD (b.length-1) 0+1) (by omega) (by omega),(pU (by omega:(0:Int)<=1000000000)).1];obtain⟨s,C⟩:∃s,(1000000000:Int) / (b.getD (b.length-1) 0+1)=s:=⟨_,rfl⟩;obtain⟨s1,s2,s3,s4⟩:=sK t1 t2 C.symm;rw[C,aI (n:=s) (by omega) (by omega)];refine Ok.gd (by rw[bj];simp;omega) (Ok.gd (by rw[decide_eq_false (by omega)];rfl) ?_);refine Ok.bd (vT j ha.dig (by omega) (by omega) (by omega)) ?_;rintro A ⟨N,A2⟩;refine Ok.bd (vT j hb.dig (by omega) (by omega) (by omega)) ?_;rintro v ⟨v1,v2⟩;obtain⟨lv,Y,_,_⟩:=Cn hb (by omega) C.symm v1 v2;have lA:A.length<=a.length+1:=mM N (by
    have h1:=iZ ha.dig;rw[A2,df];have:vl a*s<=vl a*1000000000:=mlT (by omega) O;omega)
   have b1:v.length<=A.length:=by
    by_cases h:v.length<=A.length
    ·exact h
    ·have:=cS N.dig v1 (by omega);have:vl b*s<=vl a*s:=mrT hle (by omega);omega
   have a1:Ki ((A.length:Int)-(b.length:Int))=((A.length-b.length:Nat):Int):=by rw[wrap64_in (by omega) (by omega)];omega
   rw[a1,kp (by omega)];obtain⟨m,hm⟩:∃m,A.length-b.length+1=m:=⟨_,rfl⟩;rw[hm,Int.toNat_natCast,Int.toNat_natCast];have et:(A.drop m).take (A.length-m)=A.drop m:=by rw[List.take_of_length_le];rw[List.length_drop];omega
   rw[et];refine Ok.gd (uZ.2 (by omega)) ?_;refine Ok.bd (zx j (js N.dig m) (by rw[List.length_drop];omega)) ?_;rintro r0 ⟨r1,r2⟩;refine Ok.gd (by simp) (Ok.gd (by simp;omega) (Ok.gd (by simp;omega) ?_));have a6:vl r0.Groups<vl v:=by
    have h1:=iZ (js N.dig m);rw[List.length_drop,(by omega:A.length-m=v.length-1)]at h1;obtain⟨c1,c2,c3,c4⟩:=vr v1 (by omega);have hp:=iO (v.length-1);have:pB (v.length-1)*1<=pB (v.length-1)*v.getD (v.length-1) 0:=mlT c1 (by omega);omega
   refine Ok.bd (Gt j v1 lv.symm Y (by omega) (by omega) N.dig (m:=m) (by omega) (by omega) r1 a6 r2 (by omega)) ?_;rintro⟨w,q⟩ ⟨w1,w2,E,I,J⟩;simp only at w1 w2 E I J;dsimp only;have lw:w.length<=900:=by
    by_cases T:w.length<=v.length
    ·omega
    ·have:=cS v1.dig w1 (by omega);omega
   refine Ok.bd (oY j w1.dig lw (by omega) (by omega)) ?_;rintro⟨y,c⟩ ⟨y1,y2,y3⟩;simp only at y1 y2 y3;refine Ok.bd (zx j E (by omega)) ?_;rintro z ⟨z1,z2⟩;obtain⟨f1,f2⟩:=Hq (a:=vl a) (b:=vl b) (q:=vl q) s2 y2 y3 (by rw[<-v2];exact w2) (by rw[<-v2,<-A2,J]);refine aw.2 ⟨z1,y1,f1,?_⟩;simp only;rw[z2];exact f2
theorem DG{n:Nat}{g:List Int}(h:Dig g)(z:g.length<=2):dX n g=some (vl g)/\0<=vl g/\vl g<1000000000000000000:=by
 unfold dX;have e1:bg n g 1=some (g.getD 1 0):=nB (k:=1) h;have e0:bg n g 0=some (g.getD 0 0):=nB (k:=0) h;rw[e1,e0];have d0:=cW h 0;have d1:=cW h 1;have m:vl g=g.getD 0 0+1000000000*g.getD 1 0:=by
  have a0:vl (g.drop 0)=g.getD 0 0+1000000000*vl (g.drop 1):=iW g 0;have j:=iW g 1;rw[List.drop_of_length_le (by omega:g.length<=1+1)]at j;have q:vl ([]:List Int)=0:=rfl;rw[List.drop_zero]at a0;have j:vl (g.drop 1)=g.getD 1 0+1000000000*vl []:=j;omega
 show some _=_/\_;rw[aI (n:=g.getD 1 0*1000000000) (by omega) (by omega),aI (n:=g.getD 1 0*1000000000+g.getD 0 0) (by omega) (by omega),m];exact⟨congrArg some (by omega),by omega,by omega⟩
theorem sL(x y:Nat):Nat.gcd y (x%y)=Nat.gcd x y:=by rw[Nat.gcd_comm x y,Nat.gcd_rec y x,Nat.gcd_comm]
theorem uu{n:Nat}{x y:ai}{v w:Int}(hn:20000<=n)(hx:isI x.Negative x.Groups v)(C:isI y.Negative y.Groups w)(lx:x.Groups.length<=250)(ly:y.Groups.length<=250):Ok (fy n x y) fun z=>isI z.Negative z.Groups (gZ v w):=by
 unfold fy;refine Ok.bde (lE (by omega) (by omega) hx) (Ok.bde (lE (by omega) (by omega) C) ?_);have ex:v.natAbs=(vl x.Groups).toNat:=by have:=iI hx;omega
 have ey:w.natAbs=(vl y.Groups).toNat:=by have:=iI C;omega
 have e0:gZ v w=((Nat.gcd (vl x.Groups).toNat (vl y.Groups).toNat:Nat):Int):=by unfold gZ;rw[ex,ey]
 refine Ok.bd (R:=fun o=>Can o.1/\Can o.2/\o.1.length<=250/\o.2.length<=250/\((Nat.gcd (vl o.1).toNat (vl o.2).toNat:Nat):Int)=gZ v w/\(o.2≠[]->o.1.length<=2/\o.2.length<=2)) ?_ ?_
 ·refine eE (fun p:List Int×List Int=>Can p.1/\Can p.2/\p.1.length<=250/\p.2.length<=250/\((Nat.gcd (vl p.1).toNat (vl p.2).toNat:Nat):Int)=gZ v w) (fun p=>gm (vl p.1).toNat (vl p.2).toNat) ?_ n _ ⟨hx.1,C.1,lx,ly,e0.symm⟩ ?_
  ·rintro again ⟨a,b⟩ ⟨ha,hb,I,lb,D⟩ ih;simp only at ha hb I lb D;dsimp only;have J:=bn ha.dig;refine Ok.cd (fun h=>?_) (fun h=>?_)
   ·have j:b≠[]:=by rintro rfl;simp at h
    have b4:=km hb j;have rest:Ok (bdO (dP n a b) fun Y=>again (b,Y.2)) fun o=>Can o.1/\Can o.2/\o.1.length<=250/\o.2.length<=250/\((Nat.gcd (vl o.1).toNat (vl o.2).toNat:Nat):Int)=gZ v w/\(o.2≠[]->o.1.length<=2/\o.2.length<=2):=by
     refine Ok.bd (Cc (by omega) ha hb j (by omega) (by omega)) ?_;rintro⟨q,r⟩ ⟨q1,r1,r2,r3⟩;simp only at q1 r1 r2 r3;have a1:=bn r1.dig;have er:vl r=vl a%vl b:=by
      have h1:(vl q*vl b+vl r)%vl b=vl r%vl b:=by rw[Int.add_comm,Int.add_mul_emod_self_right]
      rw[<-r3,h1,Int.emod_eq_of_lt a1 r2]
     have N:(vl r).toNat=(vl a).toNat%(vl b).toNat:=by
      rw[er,Int.toNat_emod J (by omega)]
     have a6:r.length<=250:=by
      by_cases hl:r.length<=250
      ·exact hl
      ·have:=cS hb.dig r1 (by omega);omega
     exact ih _ ⟨hb,r1,lb,a6,by simp only;rw[N,sL];exact D⟩ (by simp only;rw[N];exact xx (by omega))
    refine Ok.cd (fun h1=>rest) (fun h1=>Ok.cd (fun h2=>rest) (fun h2=>?_));have:=dcF h1;have:=dcF h2;exact aw.2 ⟨ha,hb,I,lb,D,fun _=>⟨(show a.length<=2 by omega),(show b.length<=2 by omega)⟩⟩
   ·have j:b=[]:=by
     cases b with
     |nil=>rfl
     |cons=>exact absurd (dcF h) (by simp)
    exact aw.2 ⟨ha,hb,I,lb,D,fun h=>absurd j h⟩
  ·obtain⟨K,hK⟩:∃K:Nat,K=250:=⟨_,rfl⟩;have h1:=An hx.1.dig (k:=K) (by omega);have h2:=An C.1.dig (k:=K) (by omega);have O:=Nat.mul_lt_mul'' h1 h2;rw[<-Nat.pow_add]at O;have:=u9 O;simp only;omega
 ·rintro⟨a,b⟩ ⟨ha,hb,I,lb,D,hs⟩;simp only at ha hb I lb D hs;dsimp only;have J:=bn ha.dig;refine Ok.cd (fun h=>?_) (fun h=>?_)
  ·have j:b=[]:=by simpa using h
   subst j;refine Ok.bd (eM (by omega) false ha.dig (by omega)) fun y C=>aw.2 ?_
   have e:vl a=gZ v w:=by
    rw[<-D];show vl a=((Nat.gcd (vl a).toNat 0:Nat):Int);rw[Nat.gcd_zero_right];omega
   rw[e]at C;exact C
  ·have j:b≠[]:=by rintro rfl;simp at h
   obtain⟨a7,a8⟩:=hs j;have wa:=DG (n:=n) ha.dig a7;have wb:=DG (n:=n) hb.dig a8;refine Ok.bde wa.1 (Ok.bde wb.1 ?_);refine Ok.bd (R:=fun m=>m=gZ v w/\m<1000000000000000000) ?_ ?_
   ·refine eE (fun p:Int×Int=>0<=p.1/\p.1<1000000000000000000/\0<=p.2/\p.2<1000000000000000000/\((Nat.gcd p.1.toNat p.2.toNat:Nat):Int)=gZ v w) (fun p=>gm p.1.toNat p.2.toNat) ?_ n _ ⟨wa.2.1,wa.2.2,wb.2.1,wb.2.2,D⟩ ?_
    ·rintro U ⟨c,d⟩ ⟨c1,c2,d1,d2,E⟩ b0;simp only at c1 c2 d1 d2 E;dsimp only;refine Ok.cd (fun h=>?_) (fun h=>?_)
     ·have hd:=dcT h;refine Ok.gd (by rw[decide_eq_false (by omega)];rfl) ?_;rw[(pU c1).2];have b1:=Int.emod_nonneg c (by omega:d≠0);have b3:=Int.emod_lt_of_pos c (by omega:0<d);have em:(c%d).toNat=c.toNat%d.toNat:=Int.toNat_emod c1 d1;exact b0 _ ⟨d1,d2,b1,by simp only;omega,by simp only;rw[em,sL];exact E⟩ (by simp only;rw[em];exact xx (by omega))
     ·have hd:=dcF h;have:d=0:=by omega
      subst this;refine aw.2 ⟨?_,c2⟩;rw[<-E];simp[Nat.gcd_zero_right];omega
    ·have:gm (vl a).toNat (vl b).toNat<=120+3:=u9 (by
      have h1:(vl a).toNat<2^60:=by omega
      have h2:(vl b).toNat<2^60:=by omega
      have O:(vl a).toNat*(vl b).toNat<2^60*2^60:=Nat.mul_lt_mul'' h1 h2;rw[<-Nat.pow_add]at O;exact O)
     simp only;omega
   ·rintro m ⟨hm,b3⟩;have T:0<=m:=by rw[hm];exact Int.natCast_nonneg _
    rw[(pU T).1,(pU T).2,aI (n:=m / 1000000000) (by omega) (by omega),bt (n:=m / 1000000000) (by omega) (by omega),bt (n:=m%1000000000) (by omega) (by omega)];refine Ok.bd (eM (by omega) false (jm.2 ⟨by omega,gI.2 (by omega)⟩) (by simp)) fun y C=>aw.2 ?_
    have e:vl [m%1000000000,m / 1000000000]=m:=by
     show m%1000000000+1000000000*vl [m / 1000000000]=m;rw[iP];omega
    simp only[Bool.false_eq_true,if_false]at C;rw[e,hm]at C;exact C
theorem lR{n:Nat}{x y:ai}{v w:Int}(j:1000<=n)(hx:isI x.Negative x.Groups v)(m:isI y.Negative y.Groups w)(q:x.Groups.length<=400)(C:y.Groups.length<=400):dQ n x y=some (sgn (v-w)):=by
 apply Ok.eq;unfold dQ;refine Ok.bd (Fo j hx m q C) fun z D=>?_
 have:=Bb hx m D q C;exact Ok.bde (kW j (by omega) D) (aw.2 rfl)
theorem kF{n:Nat}{x y:ai}{k w:Int}(E:1000<=n)(hx:isI x.Negative x.Groups (k*w))(q:isI y.Negative y.Groups w)(hw:w≠0)(lx:x.Groups.length<=250)(ly:y.Groups.length<=250):Ok (dy n x y) fun z=>isI z.1.Negative z.1.Groups k:=by
 unfold dy;refine Ok.bde (lE E (by omega) hx) (Ok.bde (lE E (by omega) q) ?_);have C:y.Groups≠[]:=by
  intro h;have:=q.2.2;rw[h]at this;have e:vl ([]:List Int)=0:=rfl;rw[e]at this;apply hw;rw[this];split<;>rfl
 refine Ok.cd (fun h=>absurd h (by simp[C])) (fun h=>?_);refine Ok.bd (Cc E hx.1 q.1 C (by omega) (by omega)) ?_;rintro⟨c,d⟩ ⟨c1,d1,d2,d3⟩;simp only at c1 d1 d2 d3;dsimp only;have hyp:=km q.1 C;have cp:=bn c1.dig;have dp:=bn d1.dig;have ax:=iI hx;have ay:=iI q;have em:vl x.Groups=(k.natAbs:Int)*vl y.Groups:=by rw[ax,ay,Int.natAbs_mul];push_cast;rfl
 have T:vl c=(k.natAbs:Int)/\vl d=0:=by
  have e:((k.natAbs:Int)-vl c)*vl y.Groups=vl d:=by rw[Int.sub_mul];omega
  have h0:(k.natAbs:Int)-vl c=0:=by
   by_cases h1:(k.natAbs:Int)-vl c=0
   ·exact h1
   ·exfalso;by_cases h2:1<=(k.natAbs:Int)-vl c
    ·have:1*vl y.Groups<=((k.natAbs:Int)-vl c)*vl y.Groups:=mrT h2 (by omega);omega
    ·have:((k.natAbs:Int)-vl c)*vl y.Groups<=(-1)*vl y.Groups:=mrT (by omega) (by omega);omega
  rw[h0]at e;omega
 have lc:c.length<=250:=by
  by_cases hl:c.length<=250
  ·exact hl
  ·have:=cS hx.1.dig c1 (by omega);have:vl c*1<=vl c*vl y.Groups:=mlT (by omega) cp;omega
 have I:d=[]:=ta d1 T.2;subst I;refine Ok.bd (eM E _ c1.dig (by omega)) fun z hz=>?_
 have j:isI z.Negative z.Groups k:=by
  have U:=hx.2.2;have Y:=q.2.2;have:k=(if (x.Negative !=y.Negative)=true then-vl c else vl c):=by
   rw[T.1];have hk:k=0\/0<k\/k<0:=by omega
   cases D:x.Negative<;>cases J:y.Negative<;>rw[D]at U<;>rw[J]at Y<;>simp only[Bool.false_eq_true,if_false,if_true]at U Y<;>simp<;>rcases hk with hk|hk|hk<;>try omega;all_goals exfalso
   all_goals
    first
    |(have N:=Int.mul_neg_of_neg_of_pos hk (by omega:0<w);have:=bn hx.1.dig;omega)
    |(have N:=Int.mul_pos hk (by omega:0<w);have O:=km hx.1 (hx.2.1 D);omega)
    |(have N:=Int.mul_neg_of_pos_of_neg hk (by omega:w<0);have:=bn hx.1.dig;omega)
    |(have N:=Int.mul_pos_of_neg_of_neg hk (by omega:w<0);have O:=km hx.1 (hx.2.1 D);omega)
  rw[this];exact hz
 have a1:=iZ c1.dig;have a6:=jJ lc;have lz:=iH j (k:=250) (by omega) (by omega);have tail:∀{β:Type} (f:ai->ai->Option β) {Q:β->Prop},(∀m d,Ok (f m d) Q)->Ok (bdO (cw n z y) fun v20=>bdO (dr n x v20) fun v22=>f v20 v22) Q:=by
  intro β f Q hf;refine Ok.bd (qQ E j q (by omega) (by omega)) fun p hp=>?_
  have lp:p.Groups.length<=250:=by rw[(HH hp hx).2];exact lx
  exact Ok.bd (Fo E hx hp (by omega) (by omega)) fun d _=>hf p d
 refine Ok.cd (fun h=>?_) (fun h=>?_)
 ·refine Ok.cd (fun h=>absurd (dcT h) (by simp)) (fun h=>?_);exact tail (fun m d=>some ((z,d,0))) fun m d=>aw.2 j
 ·exact tail (fun m d=>some ((z,d,0))) fun m d=>aw.2 j
end Go.L.R


set_option linter.all false
namespace Go.L.R
open Go Go.Eng Go.L
def Qx(x:ar)(r:Rat)(k:Nat):Prop:=QL x.Num.Negative x.Num.Groups x.Den.Negative x.Den.Groups r k
theorem om{p q:Bool}{g h:List Int}{v:Int}(a:isI p g v)(b:isI q h (-v)){k:Nat}(hk:g.length<=k):h.length<=k:=by
 have:=iR a hk;exact iH b (by omega) (by omega)
theorem re{n:Nat}{x y:ai}{p q:Int}{k:Nat}(U:20000<=n)(hk:k<=250)(hx:isI x.Negative x.Groups p)(E:isI y.Negative y.Groups q)(Y:x.Groups.length<=k)(ly:y.Groups.length<=k)(J:q≠0):
  Ok (eV n x y) fun z=>Qx z (Rat.divInt p q) k:=by
 unfold eV;have N:=CX (v:=p) J;refine Ok.bd (uu U hx E (by omega) (by omega)) fun g j=>?_
 have bq:=iR E ly;have bp:=iR hx Y;have I:=si p q;have C:=qI p q;have ap:=mb p _ N I;have aq:=mb q _ N C;have a1:q / gZ p q≠0:=by intro h;rw[h,Int.zero_mul]at C;exact J C
 have gq:gZ p q<=(q.natAbs:Int):=by
  have e:q.natAbs=(q / gZ p q).natAbs*(gZ p q).natAbs:=by rw[<-Int.natAbs_mul,<-C]
  have:1*(gZ p q).natAbs<=(q / gZ p q).natAbs*(gZ p q).natAbs:=Nat.mul_le_mul_right _ (by omega);omega
 have lg:g.Groups.length<=k:=iH j (by omega) (by omega);refine Ok.bde (kW (by omega) (by omega) E) ?_;have hs:=di q;refine Ok.cd (fun h=>?_) (fun h=>?_)
 ·have O:q<0:=by have:=dcT h;omega
  refine Ok.bd (pJ (by omega) (by omega) j) fun g' D=>?_
  have a6:=om j D lg;refine Ok.bd (kF (k:=-(p / gZ p q)) (by omega) (by rw[Int.neg_mul_neg,<-I];exact hx) D (by omega) (by omega) (by omega)) fun a ha=>?_
  refine Ok.bd (kF (k:=-(q / gZ p q)) (by omega) (by rw[Int.neg_mul_neg,<-C];exact E) D (by omega) (by omega) (by omega)) fun b hb=>aw.2 ?_
  have T:gZ (-p) (-q)=gZ p q:=by unfold gZ;rw[Int.natAbs_neg,Int.natAbs_neg]
  have e1:(Rat.divInt p q).num=-(p / gZ p q):=by
   rw[<-uc,rk (by omega),T];rw[show-p=(-(p / gZ p q))*gZ p q by rw[Int.neg_mul,<-I],Int.mul_ediv_cancel _ (by omega)]
  have e2:((Rat.divInt p q).den:Int)=-(q / gZ p q):=by
   rw[<-uc,qO (by omega),T];rw[show-q=(-(q / gZ p q))*gZ p q by rw[Int.neg_mul,<-C],Int.mul_ediv_cancel _ (by omega)]
  exact⟨by rw[e1];exact ha,by rw[e2];exact hb,iH ha (by omega) (by omega),iH hb (by omega) (by omega)⟩
 ·have m:0<q:=by have:=dcF h;omega
  refine Ok.bd (kF (k:=p / gZ p q) (by omega) (by rw[<-I];exact hx) j (by omega) (by omega) (by omega)) fun a ha=>?_
  refine Ok.bd (kF (k:=q / gZ p q) (by omega) (by rw[<-C];exact E) j (by omega) (by omega) (by omega)) fun b hb=>aw.2 ?_
  exact⟨by rw[rk m];exact ha,by rw[qO m];exact hb,iH ha (by omega) (by omega),iH hb (by omega) (by omega)⟩
theorem vi{n:Nat}{v:Int}(q:20000<=n)(j:-9223372036854775808<=v)(m:v<=9223372036854775807):Ok (cq n v) fun z=>isI z.Negative z.Groups v:=by
 unfold cq;exact Ok.bd (zZ (by omega) j m) fun a ha=>aw.2 ha
theorem mY{n:Nat}{x:ar}{r:Rat}{k:Nat}(m:20000<=n)(hk:k<=250)(h:Qx x r k):bY n x=some true:=by
 apply Ok.eq;unfold bY;have hp:=den_pos r;have q:=h.nl;have z:=h.dl;refine Ok.bde (mi (by omega) (by omega) h.num) (Ok.cd (fun h=>by cases h) fun _=>?_);refine Ok.bde (mi (by omega) (by omega) h.den) (Ok.cd (fun h=>by cases h) fun _=>?_);refine Ok.bde (kW (by omega) (by omega) h.den) ?_;rw[rj hp];refine Ok.cd (fun h=>absurd h (by decide)) fun _=>?_
 refine Ok.bd (uu m h.num h.den (by omega) (by omega)) fun g j=>?_
 rw[E6]at j;refine Ok.bd (vi (by omega) (by decide) (by decide)) fun one h1=>?_
 have l1:=jg h1 (by decide) (by decide);have C:=jg j (by decide) (by decide);exact Ok.bde (lR (by omega) j h1 (by omega) (by omega)) (aw.2 rfl)
theorem lf{n:Nat}{x:ar}{r:Rat}{k:Nat}(j:20000<=n)(hk:k<=250)(h:Qx x r k):dO n x=some x:=by
 unfold dO;rw[mY j hk h];rfl
theorem C7{n:Nat}{p q:Int}(E:20000<=n)(C:-9223372036854775808<=p)(D:p<=9223372036854775807)(h1:-9223372036854775808<=q)(j:q<=9223372036854775807)(I:q≠0):Ok (iy n p q) fun z=>Qx z.1 (Rat.divInt p q) 3/\z.2=0:=by
 unfold iy ki;refine Ok.bd (vi (by omega) C D) fun a ha=>Ok.bd (vi (by omega) h1 j) fun b hb=>?_
 have J:=jg ha C D;have lb:=jg hb h1 j;refine Ok.bd (R:=fun z=>Qx z.1 (Rat.divInt p q) 3/\z.2=0) ?_ fun z m=>aw.2 m
 refine Ok.bde (kW (by omega) (by omega) hb) ?_;have hs:=di q;refine Ok.cd (fun h=>?_) (fun h=>?_)
 ·have:sgn q=0:=by simpa using h
  omega
 ·exact Ok.bd (re E (by omega) ha hb J lb I) fun z m=>aw.2 ⟨m,rfl⟩
theorem Hm(a b:Rat):Rat.divInt (a.num*(b.den:Int)+b.num*(a.den:Int)) ((a.den:Int)*(b.den:Int))=a+b:=by
 have h1:=den_pos a;have h2:=den_pos b;rw[<-Rat.divInt_add_divInt _ _ (by omega) (by omega),Rat.num_divInt_den,Rat.num_divInt_den]
theorem Hj{n:Nat}{x y:ar}{a b:Rat}{j k:Nat}(D:20000<=n)(hk:j+k+1<=250)(hx:Qx x a j)(m:Qx y b k):Ok (jb n x y) fun z=>Qx z (a+b) (j+k+1):=by
 unfold jb;refine Ok.bde (lf D (by omega) hx) (Ok.bde (lf D (by omega) m) ?_);have J:=hx.nl;have N:=m.nl;have d1:=hx.dl;have d2:=m.dl;refine Ok.bd (qQ (by omega) hx.num m.den (by omega) (by omega)) fun p hp=>Ok.bd (qQ (by omega) m.num hx.den (by omega) (by omega)) fun p' C=>?_
 have T:=kz hx.num m.den hp J d2;have O:=kz m.num hx.den C N d1;refine Ok.bd (Gq (by omega) hp C (by omega) (by omega)) fun s hs=>Ok.bd (qQ (by omega) hx.den m.den (by omega) (by omega)) fun q E=>?_
 have ls:=BS hp C hs (k:=j+k) (by omega) (by omega);have U:=kz hx.den m.den E d1 d2;have h1:=den_pos a;have h2:=den_pos b;have Y:(0:Int)<(a.den:Int)*(b.den:Int):=Int.mul_pos h1 h2;refine Ok.bd (re D hk hs E (by omega) (by omega) (by omega)) fun z I=>aw.2 ?_
 rw[Hm]at I;exact I
theorem GA{n:Nat}{x:ar}{a:Rat}{k:Nat}(m:20000<=n)(hk:k<=250)(hx:Qx x a k):Ok (iU n x) fun z=>Qx z (-a) k:=by
 unfold iU;have q:=hx.nl;refine Ok.bde (lf m hk hx) (Ok.bd (pJ (by omega) (by omega) hx.num) fun z j=>aw.2 ?_);exact⟨(show(-a).num=-a.num from rfl)▸j,(show(-a).den=a.den from rfl)▸hx.den,om hx.num j hx.nl,hx.dl⟩
theorem G5{n:Nat}{x y:ar}{a b:Rat}{j k:Nat}(m:20000<=n)(hk:j+k+1<=250)(hx:Qx x a j)(q:Qx y b k):Ok (ja n x y) fun z=>Qx z (a-b) (j+k+1):=by
 unfold ja;refine Ok.bd (GA m (by omega) q) fun v C=>Ok.bd (Hj m hk hx C) fun z D=>aw.2 ?_
 rw[Rat.sub_eq_add_neg];exact D
theorem Fz{n:Nat}{x:ar}{a:Rat}{k:Nat}(j:20000<=n)(hk:k<=250)(hx:Qx x a k):iD n x=some (sgn a.num):=by
 unfold iD;have m:=hx.nl;rw[lf j hk hx];show bdO (cx n x.Num) _=_;rw[kW (by omega) (by omega) hx.num];rfl
theorem sm{n:Nat}{x y:ar}{a b:Rat}{j k:Nat}(m:20000<=n)(hk:j+k+1<=250)(hx:Qx x a j)(q:Qx y b k):eW n x y=some (sgn (a-b).num):=by
 apply Ok.eq;unfold eW;exact Ok.bd (G5 m hk hx q) fun v z=>Ok.bde (Fz m hk z) (aw.2 rfl)
end Go.L.R


set_option linter.unusedVariables false
namespace Go.L
open Go Go.Eng
theorem QL.tight{nn dn:Bool}{ng m:List Int}{r:Rat}{j:Nat}(h:QL nn ng dn m r j){p q:Int}{k:Nat}(D:r=Rat.divInt p q)(z:0<q)(h1:-pB k<p)(h2:p<pB k)(E:q<pB k):QL nn ng dn m r k:=by
 subst D;have C:=CX (v:=p) (w:=q) (by omega);have I:=mb p _ C (si p q);have a2:=mb q _ C (qI p q);have e1:=rk (p:=p) z;have e2:=qO (p:=p) z;refine⟨h.num,h.den,iH h.num (by rw[e1];omega) (by rw[e1];omega),iH h.den (by rw[e2];have:=iO k;omega) (by rw[e2];omega)⟩
end Go.L


set_option linter.unusedVariables false
namespace Go.L
open Go Go.Eng
end Go.L


set_option linter.all false
namespace Go.L
open Go Go.Eng
end Go.L


set_option linter.unusedVariables false
namespace Go.L
open Go Go.Eng
def Ee(p q r:Rat):Rat:=p*(p*p) / (3*((p-q)*(p-r)))
def H4(a b c:Rat):Rat:=(a+(b+c)) / 3
structure SpQ (a b c x y:Rat):Prop where
 m:x-y=H4 a b c
 p:0<=a->0<=b->0<=c->y=0
 n:a<=0->b<=0->c<=0->x=0
 u1:0<a->b<=0->c<=0->x=Ee a b c
 u2:0<b->a<=0->c<=0->x=Ee b a c
 u3:0<c->a<=0->b<=0->x=Ee c a b
 d1:a<0->0<=b->0<=c->y=Ee (-a) (-b) (-c)
 d2:b<0->0<=a->0<=c->y=Ee (-b) (-a) (-c)
 d3:c<0->0<=a->0<=b->y=Ee (-c) (-a) (-b)
theorem SpQ.neg{a b c x y:Rat}(h:SpQ a b c x y):SpQ (-a) (-b) (-c) y x:=by
 have e:∀z:Rat,- -z=z:=fun z=>by grind
 refine⟨?_,fun h1 h2 j=>h.n (by grind) (by grind) (by grind),fun h1 h2 j=>h.p (by grind) (by grind) (by grind),fun h1 h2 j=>h.d1 (by grind) (by grind) (by grind),fun h1 h2 j=>h.d2 (by grind) (by grind) (by grind),fun h1 h2 j=>h.d3 (by grind) (by grind) (by grind),fun h1 h2 j=>?_,fun h1 h2 j=>?_,fun h1 h2 j=>?_⟩
 ·have:=h.m;unfold H4 at this ⊢;grind
 ·rw[e,e,e];exact h.u1 (by grind) (by grind) (by grind)
 ·rw[e,e,e];exact h.u2 (by grind) (by grind) (by grind)
 ·rw[e,e,e];exact h.u3 (by grind) (by grind) (by grind)
end Go.L


set_option linter.all false
namespace Go.L
open Go Go.Eng
theorem Ik{a:Rat}:a.num<=0↔a<=0:=by
 have h:=Rat.num_nonneg (q:=-a);rw[Rat.neg_num]at h;constructor
 ·intro k;have:=h.1 (by omega);grind
 ·intro k;have:=h.2 (by grind);omega
theorem Ip{a:Rat}:0<a.num↔0<a:=by
 have h:=Ik (a:=a);constructor
 ·intro k;apply Classical.byContradiction;intro hc;have:=h.2 (by grind);omega
 ·intro k;apply Classical.byContradiction;intro hc;have:=h.1 (by omega);grind
theorem Hz{n:Nat}{x y:ar}{a b:Rat}{j k:Nat}(z:20000<=n)(J:j<=30)(hk:k<=30)(hx:Qx x a j)(D:Qx y b k):Ok (dN n x y) fun s=>s<0↔a<b:=by
 unfold dN;refine Ok.bd (lf z (by omega) hx) fun v m=>Ok.bd (lf z (by omega) D) fun w hw=>?_
 have E:=m.nl;have I:=hw.nl;have d1:=m.dl;have d2:=hw.dl;refine Ok.bd (qQ (by omega) m.num hw.den (by omega) (by omega)) fun p hp=>Ok.bd (qQ (by omega) hw.num m.den (by omega) (by omega)) fun q C=>?_
 have N:=kz m.num hw.den hp E d2;have O:=kz hw.num m.den C I d1;refine Ok.bde (lR (by omega) hp C (by omega) (by omega)) (aw.2 ?_);have:=di (a.num*(b.den:Int)-b.num*(a.den:Int));rw[Rat.lt_iff];omega
end Go.L

