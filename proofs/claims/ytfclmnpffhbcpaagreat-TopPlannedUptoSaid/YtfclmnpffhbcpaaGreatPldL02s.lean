import Derived.Test.YtfclmnpffhbcpaaGreatPldL01v
import Derived.Test.YtfclmnpffhbcpaaGreatPldL02p
set_option linter.all false
namespace Go.L.R
open Go Go.Eng Go.L
theorem Aj{n:Nat}{a b:List Int}(j:1000<=n)(E:Can a)(C:Can b)(I:b≠[])(la:a.length<=300)(lb:b.length<=300):Ok (ei n a b) fun r=>Can r.1/\Can r.2/\vl r.2<vl b/\vl r.1*vl b+vl r.2=vl a:=by
 unfold ei;have a7:=kJ C I;have S:=bI E.dig;have a6:0<b.length:=List.length_pos_iff.2 I;refine Ok.cd (fun h=>?_) (fun h=>?_)
 ·have T:b.length=1:=by simp at h;omega
  obtain⟨d,rfl⟩:∃d,b=[d]:=by
   match b,T with
   |[d],_=>exact⟨d,rfl⟩
  have hd:=gz.1 C.dig;have a8:d≠0:=C.2.1 rfl;refine Ok.gd rfl ?_;have e:gt [d] 0=d:=rfl;rw[e,aO hd.1 (by omega)];refine Ok.bd (pC j E.dig (by omega) (by omega) (by omega)) ?_;rintro⟨q,r⟩ ⟨J,N,O⟩;simp only at J N O;dsimp only;rw[bU N.1 (by omega)];refine Ok.bd (yJ j (gz.2 (by omega)) (by simp)) ?_;rintro z ⟨z1,z2⟩;rw[iQ]at z2;refine aC.2 ⟨J,z1,?_,?_⟩
  ·simp only[z2,iQ];exact N.2
  ·simp only[z2,iQ];exact O
 ·have T:2<=b.length:=by simp at h;omega
  refine Ok.bde (zQ j E C (by omega) (by omega)) ?_;have hs:=dS (vl a-vl b);refine Ok.cd (fun h=>?_) (fun h=>?_)
  ·have U:vl a<vl b:=by have:=dcT h;omega
   exact aC.2 ⟨trivial,E,U,by show 0*vl b+vl a=vl a;omega⟩
  ·have hle:vl b<=vl a:=by have:=dcF h;omega
   rw[mR (k:=b.length) (by omega) (by omega),fa];have dt:=dC C.dig (b.length-1);obtain⟨t1,t2,t3,t4⟩:=uJ C (by omega);rw[aO (n:=b.getD (b.length-1) 0) (by omega) (by omega),aO (n:=b.getD (b.length-1) 0+1) (by omega) (by omega),(qi (by omega:(0:Int)<=1000000000)).1];obtain⟨s,D⟩:∃s,(1000000000:Int) / (b.getD (b.length-1) 0+1)=s:=⟨_,rfl⟩;obtain⟨s1,s2,s3,s4⟩:=sJ t1 t2 D.symm;rw[D,aO (n:=s) (by omega) (by omega)];refine Ok.gd (by rw[bm];simp;omega) (Ok.gd (by rw[decide_eq_false (by omega)];rfl) ?_);refine Ok.bd (vK j E.dig (by omega) (by omega) (by omega)) ?_;rintro A ⟨R,A2⟩;refine Ok.bd (vK j C.dig (by omega) (by omega) (by omega)) ?_;rintro v ⟨v1,v2⟩;obtain⟨lv,Y,_,_⟩:=BC C (by omega) D.symm v1 v2;have lA:A.length<=a.length+1:=lW R (by
    have h1:=iu E.dig;rw[A2,dE];have:vl a*s<=vl a*1000000000:=mlT (by omega) S;omega)
   have b0:v.length<=A.length:=by
    by_cases h:v.length<=A.length
    ·exact h
    ·have:=de R.dig v1 (by omega);have:vl b*s<=vl a*s:=mrT hle (by omega);omega
   have Z:Hy ((A.length:Int)-(b.length:Int))=((A.length-b.length:Nat):Int):=by rw[wrap64_in (by omega) (by omega)];omega
   rw[Z,kK (by omega)];obtain⟨m,hm⟩:∃m,A.length-b.length+1=m:=⟨_,rfl⟩;rw[hm,Int.toNat_natCast,Int.toNat_natCast];have et:(A.drop m).take (A.length-m)=A.drop m:=by rw[List.take_of_length_le];rw[List.length_drop];omega
   rw[et];refine Ok.gd (nJ.2 (by omega)) ?_;refine Ok.bd (yJ j (jJ R.dig m) (by rw[List.length_drop];omega)) ?_;rintro r0 ⟨r1,r2⟩;refine Ok.gd (by simp) (Ok.gd (by simp;omega) (Ok.gd (by simp;omega) ?_));have a1:vl r0.Groups<vl v:=by
    have h1:=iu (jJ R.dig m);rw[List.length_drop,(by omega:A.length-m=v.length-1)]at h1;obtain⟨c1,c2,c3,c4⟩:=uJ v1 (by omega);have hp:=iv (v.length-1);have:pB (v.length-1)*1<=pB (v.length-1)*v.getD (v.length-1) 0:=mlT c1 (by omega);omega
   refine Ok.bd (D2 j v1 lv.symm Y (by omega) (by omega) R.dig (m:=m) (by omega) (by omega) r1 a1 r2 (by omega)) ?_;rintro⟨w,q⟩ ⟨w1,w2,J,N,O⟩;simp only at w1 w2 J N O;dsimp only;have lw:w.length<=900:=by
    by_cases T:w.length<=v.length
    ·omega
    ·have:=de v1.dig w1 (by omega);omega
   refine Ok.bd (pC j w1.dig lw (by omega) (by omega)) ?_;rintro⟨y,c⟩ ⟨y1,y2,y3⟩;simp only at y1 y2 y3;refine Ok.bd (yJ j J (by omega)) ?_;rintro z ⟨z1,z2⟩;obtain⟨f1,f2⟩:=Ff (a:=vl a) (b:=vl b) (q:=vl q) s2 y2 y3 (by rw[<-v2];exact w2) (by rw[<-v2,<-A2,O]);refine aC.2 ⟨z1,y1,f1,?_⟩;simp only;rw[z2];exact f2
theorem BY{n:Nat}{g:List Int}(h:Dig g)(C:g.length<=2):eP n g=some (vl g)/\0<=vl g/\vl g<1000000000000000000:=by
 unfold eP;have e1:bG n g 1=some (g.getD 1 0):=oa (k:=1) h;have e0:bG n g 0=some (g.getD 0 0):=oa (k:=0) h;rw[e1,e0];have d0:=dC h 0;have d1:=dC h 1;have q:vl g=g.getD 0 0+1000000000*g.getD 1 0:=by
  have a0:vl (g.drop 0)=g.getD 0 0+1000000000*vl (g.drop 1):=iY g 0;have j:=iY g 1;rw[List.drop_of_length_le (by omega:g.length<=1+1)]at j;have z:vl ([]:List Int)=0:=rfl;rw[List.drop_zero]at a0;have j:vl (g.drop 1)=g.getD 1 0+1000000000*vl []:=j;omega
 show some _=_/\_;rw[aO (n:=g.getD 1 0*1000000000) (by omega) (by omega),aO (n:=g.getD 1 0*1000000000+g.getD 0 0) (by omega) (by omega),q];exact⟨congrArg some (by omega),by omega,by omega⟩
theorem sH(x y:Nat):Nat.gcd y (x%y)=Nat.gcd x y:=by rw[Nat.gcd_comm x y,Nat.gcd_rec y x,Nat.gcd_comm]
theorem yc{n:Nat}{x y:aj}{v w:Int}(hn:5000<=n)(Z:isI x.Negative x.Groups v)(C:isI y.Negative y.Groups w)(lx:x.Groups.length<=60)(ly:y.Groups.length<=60):Ok (gB n x y) fun z=>isI z.Negative z.Groups (gZ v w):=by
 unfold gB;refine Ok.bde (lU (by omega) (by omega) Z) (Ok.bde (lU (by omega) (by omega) C) ?_);have ex:v.natAbs=(vl x.Groups).toNat:=by have:=iJ Z;omega
 have ey:w.natAbs=(vl y.Groups).toNat:=by have:=iJ C;omega
 have e0:gZ v w=((Nat.gcd (vl x.Groups).toNat (vl y.Groups).toNat:Nat):Int):=by unfold gZ;rw[ex,ey]
 refine Ok.bd (R:=fun o=>Can o.1/\Can o.2/\o.1.length<=60/\o.2.length<=60/\((Nat.gcd (vl o.1).toNat (vl o.2).toNat:Nat):Int)=gZ v w/\(o.2≠[]->o.1.length<=2/\o.2.length<=2)) ?_ ?_
 ·refine ee (fun p:List Int×List Int=>Can p.1/\Can p.2/\p.1.length<=60/\p.2.length<=60/\((Nat.gcd (vl p.1).toNat (vl p.2).toNat:Nat):Int)=gZ v w) (fun p=>gm (vl p.1).toNat (vl p.2).toNat) ?_ n _ ⟨Z.1,C.1,lx,ly,e0.symm⟩ ?_
  ·rintro again ⟨a,b⟩ ⟨D,E,O,lb,I⟩ ih;simp only at D E O lb I;dsimp only;have S:=bI D.dig;refine Ok.cd (fun h=>?_) (fun h=>?_)
   ·have j:b≠[]:=by rintro rfl;simp at h
    have b5:=kJ E j;have rest:Ok (bdO (ei n a b) fun a6=>again (b,a6.2)) fun o=>Can o.1/\Can o.2/\o.1.length<=60/\o.2.length<=60/\((Nat.gcd (vl o.1).toNat (vl o.2).toNat:Nat):Int)=gZ v w/\(o.2≠[]->o.1.length<=2/\o.2.length<=2):=by
     refine Ok.bd (Aj (by omega) D E j (by omega) (by omega)) ?_;rintro⟨q,r⟩ ⟨q1,r1,r2,r3⟩;simp only at q1 r1 r2 r3;have a7:=bI r1.dig;have er:vl r=vl a%vl b:=by
      have h1:(vl q*vl b+vl r)%vl b=vl r%vl b:=by rw[Int.add_comm,Int.add_mul_emod_self_right]
      rw[<-r3,h1,Int.emod_eq_of_lt a7 r2]
     have T:(vl r).toNat=(vl a).toNat%(vl b).toNat:=by
      rw[er,Int.toNat_emod S (by omega)]
     have a8:r.length<=60:=by
      by_cases hl:r.length<=60
      ·exact hl
      ·have:=de E.dig r1 (by omega);omega
     exact ih _ ⟨E,r1,lb,a8,by simp only;rw[T,sH];exact I⟩ (by simp only;rw[T];exact xb (by omega))
    refine Ok.cd (fun h1=>rest) (fun h1=>Ok.cd (fun N=>rest) (fun N=>?_));have:=dcF h1;have:=dcF N;exact aC.2 ⟨D,E,O,lb,I,fun _=>⟨(show a.length<=2 by omega),(show b.length<=2 by omega)⟩⟩
   ·have j:b=[]:=by
     cases b with
     |nil=>rfl
     |cons=>exact absurd (dcF h) (by simp)
    exact aC.2 ⟨D,E,O,lb,I,fun h=>absurd j h⟩
  ·obtain⟨K,hK⟩:∃K:Nat,K=60:=⟨_,rfl⟩;have h1:=zI Z.1.dig (k:=K) (by omega);have N:=zI C.1.dig (k:=K) (by omega);have U:=Nat.mul_lt_mul'' h1 N;rw[<-Nat.pow_add]at U;have:=vt U;simp only;omega
 ·rintro⟨a,b⟩ ⟨D,E,O,lb,I,hs⟩;simp only at D E O lb I hs;dsimp only;have S:=bI D.dig;refine Ok.cd (fun h=>?_) (fun h=>?_)
  ·have j:b=[]:=by simpa using h
   subst j;refine Ok.bd (eD (by omega) false D.dig (by omega)) fun y C=>aC.2 ?_
   have e:vl a=gZ v w:=by
    rw[<-I];show vl a=((Nat.gcd (vl a).toNat 0:Nat):Int);rw[Nat.gcd_zero_right];omega
   rw[e]at C;exact C
  ·have j:b≠[]:=by rintro rfl;simp at h
   obtain⟨b0,b1⟩:=hs j;have wa:=BY (n:=n) D.dig b0;have wb:=BY (n:=n) E.dig b1;refine Ok.bde wa.1 (Ok.bde wb.1 ?_);refine Ok.bd (R:=fun m=>m=gZ v w/\m<1000000000000000000) ?_ ?_
   ·refine ee (fun p:Int×Int=>0<=p.1/\p.1<1000000000000000000/\0<=p.2/\p.2<1000000000000000000/\((Nat.gcd p.1.toNat p.2.toNat:Nat):Int)=gZ v w) (fun p=>gm p.1.toNat p.2.toNat) ?_ n _ ⟨wa.2.1,wa.2.2,wb.2.1,wb.2.2,I⟩ ?_
    ·rintro a1 ⟨c,d⟩ ⟨c1,c2,d1,d2,J⟩ b2;simp only at c1 c2 d1 d2 J;dsimp only;refine Ok.cd (fun h=>?_) (fun h=>?_)
     ·have hd:=dcT h;refine Ok.gd (by rw[decide_eq_false (by omega)];rfl) ?_;rw[(qi c1).2];have b3:=Int.emod_nonneg c (by omega:d≠0);have b4:=Int.emod_lt_of_pos c (by omega:0<d);have em:(c%d).toNat=c.toNat%d.toNat:=Int.toNat_emod c1 d1;exact b2 _ ⟨d1,d2,b3,by simp only;omega,by simp only;rw[em,sH];exact J⟩ (by simp only;rw[em];exact xb (by omega))
     ·have hd:=dcF h;have:d=0:=by omega
      subst this;refine aC.2 ⟨?_,c2⟩;rw[<-J];simp[Nat.gcd_zero_right];omega
    ·have:gm (vl a).toNat (vl b).toNat<=120+3:=vt (by
      have h1:(vl a).toNat<2^60:=by omega
      have N:(vl b).toNat<2^60:=by omega
      have U:(vl a).toNat*(vl b).toNat<2^60*2^60:=Nat.mul_lt_mul'' h1 N;rw[<-Nat.pow_add]at U;exact U)
     simp only;omega
   ·rintro m ⟨hm,b4⟩;have Y:0<=m:=by rw[hm];exact Int.natCast_nonneg _
    rw[(qi Y).1,(qi Y).2,aO (n:=m / 1000000000) (by omega) (by omega),bU (n:=m / 1000000000) (by omega) (by omega),bU (n:=m%1000000000) (by omega) (by omega)];refine Ok.bd (eD (by omega) false (jy.2 ⟨by omega,gz.2 (by omega)⟩) (by simp)) fun y C=>aC.2 ?_
    have e:vl [m%1000000000,m / 1000000000]=m:=by
     show m%1000000000+1000000000*vl [m / 1000000000]=m;rw[iQ];omega
    simp only[Bool.false_eq_true,if_false]at C;rw[e,hm]at C;exact C
theorem ur{n:Nat}{x y:aj}{v w:Int}(j:1000<=n)(q:isI x.Negative x.Groups v)(C:isI y.Negative y.Groups w)(D:x.Groups.length<=400)(E:y.Groups.length<=400):fS n x y=some (sgn (v-w)):=by
 apply Ok.eq;unfold fS;refine Ok.bd (Eo j q C D E) fun z I=>?_
 have:=AG q C I D E;exact Ok.bde (lV j (by omega) I) (aC.2 rfl)
theorem kT{n:Nat}{x y:aj}{k w:Int}(I:1000<=n)(j:isI x.Negative x.Groups (k*w))(C:isI y.Negative y.Groups w)(hw:w≠0)(Y:x.Groups.length<=130)(ly:y.Groups.length<=130):Ok (dR n x y) fun z=>isI z.1.Negative z.1.Groups k:=by
 unfold dR;refine Ok.bde (lU I (by omega) j) (Ok.bde (lU I (by omega) C) ?_);have D:y.Groups≠[]:=by
  intro h;have:=C.2.2;rw[h]at this;have e:vl ([]:List Int)=0:=rfl;rw[e]at this;apply hw;rw[this];split<;>rfl
 refine Ok.cd (fun h=>absurd h (by simp[D])) (fun h=>?_);refine Ok.bd (Aj I j.1 C.1 D (by omega) (by omega)) ?_;rintro⟨c,d⟩ ⟨c1,d1,d2,d3⟩;simp only at c1 d1 d2 d3;dsimp only;have hyp:=kJ C.1 D;have Z:=bI c1.dig;have dp:=bI d1.dig;have ax:=iJ j;have ay:=iJ C;have em:vl x.Groups=(k.natAbs:Int)*vl y.Groups:=by rw[ax,ay,Int.natAbs_mul];push_cast;rfl
 have S:vl c=(k.natAbs:Int)/\vl d=0:=by
  have e:((k.natAbs:Int)-vl c)*vl y.Groups=vl d:=by rw[Int.sub_mul];omega
  have h0:(k.natAbs:Int)-vl c=0:=by
   by_cases h1:(k.natAbs:Int)-vl c=0
   ·exact h1
   ·exfalso;by_cases h2:1<=(k.natAbs:Int)-vl c
    ·have:1*vl y.Groups<=((k.natAbs:Int)-vl c)*vl y.Groups:=mrT h2 (by omega);omega
    ·have:((k.natAbs:Int)-vl c)*vl y.Groups<=(-1)*vl y.Groups:=mrT (by omega) (by omega);omega
  rw[h0]at e;omega
 have lc:c.length<=130:=by
  by_cases hl:c.length<=130
  ·exact hl
  ·have:=de j.1.dig c1 (by omega);have:vl c*1<=vl c*vl y.Groups:=mlT (by omega) Z;omega
 have J:d=[]:=sO d1 S.2;subst J;refine Ok.bd (eD I _ c1.dig (by omega)) fun z hz=>?_
 have q:isI z.Negative z.Groups k:=by
  have T:=j.2.2;have U:=C.2.2;have:k=(if (x.Negative !=y.Negative)=true then-vl c else vl c):=by
   rw[S.1];have hk:k=0\/0<k\/k<0:=by omega
   cases E:x.Negative<;>cases N:y.Negative<;>rw[E]at T<;>rw[N]at U<;>simp only[Bool.false_eq_true,if_false,if_true]at T U<;>simp<;>rcases hk with hk|hk|hk<;>try omega;all_goals exfalso
   all_goals
    first
    |(have O:=Int.mul_neg_of_neg_of_pos hk (by omega:0<w);have:=bI j.1.dig;omega)
    |(have O:=Int.mul_pos hk (by omega:0<w);have R:=kJ j.1 (j.2.1 E);omega)
    |(have O:=Int.mul_neg_of_pos_of_neg hk (by omega:w<0);have:=bI j.1.dig;omega)
    |(have O:=Int.mul_pos_of_neg_of_neg hk (by omega:w<0);have R:=kJ j.1 (j.2.1 E);omega)
  rw[this];exact hz
 have a1:=iu c1.dig;have a6:=iX lc;have lz:=ju q (k:=130) (by omega) (by omega);have tail:∀{β:Type} (f:aj->aj->Option β) {Q:β->Prop},(∀m d,Ok (f m d) Q)->Ok (bdO (cP n z y) fun v20=>bdO (dO n x v20) fun v22=>f v20 v22) Q:=by
  intro β f Q hf;refine Ok.bd (oz I q C (by omega) (by omega)) fun p hp=>?_
  have lp:p.Groups.length<=130:=by rw[(Fv hp j).2];exact Y
  exact Ok.bd (Eo I j hp (by omega) (by omega)) fun d _=>hf p d
 refine Ok.cd (fun h=>?_) (fun h=>?_)
 ·refine Ok.cd (fun h=>absurd (dcT h) (by simp)) (fun h=>?_);exact tail (fun m d=>some ((z,d,0))) fun m d=>aC.2 q
 ·exact tail (fun m d=>some ((z,d,0))) fun m d=>aC.2 q
end Go.L.R


set_option linter.all false
namespace Go.L.R
open Go Go.Eng Go.L
def Qx(x:an)(r:Rat)(k:Nat):Prop:=QL x.Num.Negative x.Num.Groups x.Den.Negative x.Den.Groups r k
theorem nH{p q:Bool}{g h:List Int}{v:Int}(a:isI p g v)(b:isI q h (-v)){k:Nat}(hk:g.length<=k):h.length<=k:=by
 have:=kp a hk;exact ju b (by omega) (by omega)
theorem nq{n:Nat}{x y:aj}{p q:Int}{k:Nat}(Z:5000<=n)(hk:k<=60)(O:isI x.Negative x.Groups p)(I:isI y.Negative y.Groups q)(lx:x.Groups.length<=k)(ly:y.Groups.length<=k)(S:q≠0):
  Ok (fT n x y) fun z=>Qx z (Rat.divInt p q) k:=by
 unfold fT;have T:=zJ (v:=p) S;refine Ok.bd (yc Z O I (by omega) (by omega)) fun g j=>?_
 have bq:=kp I ly;have bp:=kp O lx;have R:=pN p q;have D:=ri p q;have ap:=mv p _ T R;have aq:=mv q _ T D;have a1:q / gZ p q≠0:=by intro h;rw[h,Int.zero_mul]at D;exact S D
 have gq:gZ p q<=(q.natAbs:Int):=by
  have e:q.natAbs=(q / gZ p q).natAbs*(gZ p q).natAbs:=by rw[<-Int.natAbs_mul,<-D]
  have:1*(gZ p q).natAbs<=(q / gZ p q).natAbs*(gZ p q).natAbs:=Nat.mul_le_mul_right _ (by omega);omega
 have lg:g.Groups.length<=k:=ju j (by omega) (by omega);refine Ok.bde (lV (by omega) (by omega) I) ?_;have hs:=dS q;refine Ok.cd (fun h=>?_) (fun h=>?_)
 ·have U:q<0:=by have:=dcT h;omega
  refine Ok.bd (oZ (by omega) (by omega) j) fun g' E=>?_
  have a6:=nH j E lg;refine Ok.bd (kT (k:=-(p / gZ p q)) (by omega) (by rw[Int.neg_mul_neg,<-R];exact O) E (by omega) (by omega) (by omega)) fun a J=>?_
  refine Ok.bd (kT (k:=-(q / gZ p q)) (by omega) (by rw[Int.neg_mul_neg,<-D];exact I) E (by omega) (by omega) (by omega)) fun b N=>aC.2 ?_
  have Y:gZ (-p) (-q)=gZ p q:=by unfold gZ;rw[Int.natAbs_neg,Int.natAbs_neg]
  have e1:(Rat.divInt p q).num=-(p / gZ p q):=by
   rw[<-uD,np (by omega),Y];rw[show-p=(-(p / gZ p q))*gZ p q by rw[Int.neg_mul,<-R],Int.mul_ediv_cancel _ (by omega)]
  have e2:((Rat.divInt p q).den:Int)=-(q / gZ p q):=by
   rw[<-uD,pD (by omega),Y];rw[show-q=(-(q / gZ p q))*gZ p q by rw[Int.neg_mul,<-D],Int.mul_ediv_cancel _ (by omega)]
  exact⟨by rw[e1];exact J,by rw[e2];exact N,ju J (by omega) (by omega),ju N (by omega) (by omega)⟩
 ·have C:0<q:=by have:=dcF h;omega
  refine Ok.bd (kT (k:=p / gZ p q) (by omega) (by rw[<-R];exact O) j (by omega) (by omega) (by omega)) fun a J=>?_
  refine Ok.bd (kT (k:=q / gZ p q) (by omega) (by rw[<-D];exact I) j (by omega) (by omega) (by omega)) fun b N=>aC.2 ?_
  exact⟨by rw[np C];exact J,by rw[pD C];exact N,ju J (by omega) (by omega),ju N (by omega) (by omega)⟩
theorem xz{n:Nat}{v:Int}(D:5000<=n)(j:-9223372036854775808<=v)(q:v<=9223372036854775807):Ok (dH n v) fun z=>isI z.Negative z.Groups v:=by
 unfold dH;exact Ok.bd (xo (by omega) j q) fun a C=>aC.2 C
theorem qW{n:Nat}{x:an}{r:Rat}{k:Nat}(q:5000<=n)(hk:k<=60)(h:Qx x r k):fP n x=some true:=by
 apply Ok.eq;unfold fP;have hp:=den_pos r;have z:=h.nl;have C:=h.dl;refine Ok.bde (mT (by omega) (by omega) h.num) (Ok.cd (fun h=>by cases h) fun _=>?_);refine Ok.bde (mT (by omega) (by omega) h.den) (Ok.cd (fun h=>by cases h) fun _=>?_);refine Ok.bde (lV (by omega) (by omega) h.den) ?_;rw[pP hp];refine Ok.cd (fun h=>absurd h (by decide)) fun _=>?_
 refine Ok.bd (yc q h.num h.den (by omega) (by omega)) fun g j=>?_
 rw[EA]at j;refine Ok.bd (xz (by omega) (by decide) (by decide)) fun one h1=>?_
 have l1:=jm h1 (by decide) (by decide);have D:=jm j (by decide) (by decide);exact Ok.bde (ur (by omega) j h1 (by omega) (by omega)) (aC.2 rfl)
theorem gE{n:Nat}{x:an}{r:Rat}{k:Nat}(j:5000<=n)(hk:k<=60)(h:Qx x r k):dF n x=some x:=by
 unfold dF;rw[qW j hk h];rfl
theorem sV{n:Nat}{v:Int}(E:5000<=n)(j:-9223372036854775808<=v)(q:v<=9223372036854775807):Ok (cZ n v) fun z=>Qx z (Rat.divInt v 1) 3:=by
 unfold cZ;refine Ok.bd (xz (by omega) j q) fun a C=>Ok.bd (xz (by omega) (by decide) (by decide)) fun b D=>aC.2 ?_
 obtain⟨e1,e2⟩:=yK v;exact⟨by rw[e1];exact C,by rw[e2];exact D,jm C j q,jm D (by decide) (by decide)⟩
theorem zg(a b:Rat):Rat.divInt (a.num*(b.den:Int)+b.num*(a.den:Int)) ((a.den:Int)*(b.den:Int))=a+b:=by
 have h1:=den_pos a;have j:=den_pos b;rw[<-Rat.divInt_add_divInt _ _ (by omega) (by omega),Rat.num_divInt_den,Rat.num_divInt_den]
theorem uY{n:Nat}{x y:an}{a b:Rat}{j k:Nat}(I:5000<=n)(hk:j+k+1<=60)(C:Qx x a j)(D:Qx y b k):Ok (dK n x y) fun z=>Qx z (a+b) (j+k+1):=by
 unfold dK;refine Ok.bde (gE I (by omega) C) (Ok.bde (gE I (by omega) D) ?_);have O:=C.nl;have n2:=D.nl;have d1:=C.dl;have d2:=D.dl;refine Ok.bd (oz (by omega) C.num D.den (by omega) (by omega)) fun p hp=>Ok.bd (oz (by omega) D.num C.den (by omega) (by omega)) fun T E=>?_
 have U:=ik C.num D.den hp O d2;have R:=ik D.num C.den E n2 d1;refine Ok.bd (zl (by omega) hp E (by omega) (by omega)) fun s hs=>Ok.bd (oz (by omega) C.den D.den (by omega) (by omega)) fun q J=>?_
 have ls:=wL hp E hs (k:=j+k) (by omega) (by omega);have Y:=ik C.den D.den J d1 d2;have h1:=den_pos a;have S:=den_pos b;have Z:(0:Int)<(a.den:Int)*(b.den:Int):=Int.mul_pos h1 S;refine Ok.bd (nq I hk hs J (by omega) (by omega) (by omega)) fun z N=>aC.2 ?_
 rw[zg]at N;exact N
theorem xe{n:Nat}{x:an}{a:Rat}{k:Nat}(C:5000<=n)(hk:k<=60)(j:Qx x a k):Ok (gG n x) fun z=>Qx z (-a) k:=by
 unfold gG;have D:=j.nl;refine Ok.bde (gE C hk j) (Ok.bd (oZ (by omega) (by omega) j.num) fun z q=>aC.2 ?_);exact⟨(show(-a).num=-a.num from rfl)▸q,(show(-a).den=a.den from rfl)▸j.den,nH j.num q j.nl,j.dl⟩
theorem zq{n:Nat}{x y:an}{a b:Rat}{j k:Nat}(q:5000<=n)(hk:j+k+1<=60)(C:Qx x a j)(D:Qx y b k):Ok (ji n x y) fun z=>Qx z (a-b) (j+k+1):=by
 unfold ji;refine Ok.bd (xe q (by omega) D) fun v E=>Ok.bd (uY q hk C E) fun z I=>aC.2 ?_
 rw[Rat.sub_eq_add_neg];exact I
theorem xx{n:Nat}{x:an}{a:Rat}{k:Nat}(q:5000<=n)(hk:k<=60)(j:Qx x a k):fq n x=some (sgn a.num):=by
 unfold fq;have z:=j.nl;rw[gE q hk j];show bdO (dW n x.Num) _=_;rw[lV (by omega) (by omega) j.num];rfl
theorem AP{n:Nat}{x y:an}{a b:Rat}{j k:Nat}(q:5000<=n)(hk:j+k+1<=60)(z:Qx x a j)(C:Qx y b k):dr n x y=some (sgn (a-b).num):=by
 apply Ok.eq;unfold dr;exact Ok.bd (zq q hk z C) fun v D=>Ok.bde (xx q hk D) (aC.2 rfl)
end Go.L.R


set_option linter.unusedVariables false
namespace Go.L
open Go Go.Eng
theorem QL.tight{z C:Bool}{ng D:List Int}{r:Rat}{j:Nat}(h:QL z ng C D r j){p q:Int}{k:Nat}(J:r=Rat.divInt p q)(E:0<q)(h1:-pB k<p)(N:p<pB k)(O:q<pB k):QL z ng C D r k:=by
 subst J;have I:=zJ (v:=p) (w:=q) (by omega);have R:=mv p _ I (pN p q);have a2:=mv q _ I (ri p q);have e1:=np (p:=p) E;have e2:=pD (p:=p) E;refine⟨h.num,h.den,ju h.num (by rw[e1];omega) (by rw[e1];omega),ju h.den (by rw[e2];have:=iv k;omega) (by rw[e2];omega)⟩
theorem sG(a:Int):Rat.divInt a 1=(a:Rat):=by
 rw[Rat.divInt_eq_div];grind
end Go.L


set_option linter.unusedVariables false
namespace Go.L
open Go Go.Eng
theorem CJ{p q s t:Int}(j:0<q)(z:0<t):sgn (Rat.divInt p q-Rat.divInt s t).num=sgn (p*t-s*q):=by
 rw[Rat.divInt_sub_divInt _ _ (by omega) (by omega)];have hp:=Int.mul_pos j z;rw[np hp];have C:=zJ (v:=p*t-s*q) (w:=q*t) (by omega);have he:=pN (p*t-s*q) (q*t);generalize gZ (p*t-s*q) (q*t)=g at*;generalize p*t-s*q=x at*;have D:=dS x;have h1:=dS (x / g);have E:0<x->0<x / g:=fun h=>by
  by_cases hc:0<x / g
  ·exact hc
  ·have:=mrT (show x / g<=0 by omega) (show 0<=g by omega);omega
 have a2:x<0->x / g<0:=fun h=>by
  by_cases hc:x / g<0
  ·exact hc
  ·have:=Int.mul_nonneg (show 0<=x / g by omega) (show 0<=g by omega);omega
 have a3:x=0->x / g=0:=fun h=>by rw[h];simp
 omega
end Go.L


set_option linter.all false
namespace Go.L
open Go Go.Eng
theorem Fx{a b:Rat}:Rat.divInt (a.num*(b.den:Int)) ((a.den:Int)*b.num)=a / b:=by
 rw[Rat.div_def,Rat.inv_def,<-Rat.divInt_mul_divInt,Rat.num_divInt_den]
theorem Ga{b:Rat}(h:b≠0):b.num≠0:=fun e=>h (Rat.num_eq_zero.1 e)
theorem xe{n:Nat}{x:an}{a:Rat}{k:Nat}(C:5000<=n)(hk:k<=60)(D:Qx x a k):Ok (mM n x) fun z=>Qx z (-a) k:=by
 unfold mM;refine Ok.bd (gE C hk D) fun v j=>?_
 have E:=j.nl;refine Ok.bd (oZ (by omega) (by omega) j.num) fun z q=>aC.2 ?_
 exact⟨(show(-a).num=-a.num from rfl)▸q,(show(-a).den=a.den from rfl)▸j.den,nH j.num q j.nl,j.dl⟩
theorem zq{n:Nat}{x y:an}{a b:Rat}{j k:Nat}(q:5000<=n)(hk:j+k+1<=60)(C:Qx x a j)(D:Qx y b k):Ok (mI n x y) fun z=>Qx z (a-b) (j+k+1):=by
 unfold mI;refine Ok.bd (xe q (by omega) D) fun v E=>Ok.bd (uY q hk C E) fun z I=>aC.2 ?_
 rw[Rat.sub_eq_add_neg];exact I
end Go.L

