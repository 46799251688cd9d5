import Derived.Test.YtglimpjlhfjgdaaGreatGrdL01v
import Derived.Test.YtglimpjlhfjgdaaGreatGrdL02pB
set_option linter.all false
namespace Go.L.R
open Go Go.Eng Go.L
theorem zp{n:Nat}{a b:List Int}(j:1000<=n)(D:Can a)(p:Can b)(E:b≠[])(la:a.length<=300)(lb:b.length<=300):Ok (dq n a b) fun r=>Can r.1/\Can r.2/\vl r.2<vl b/\vl r.1*vl b+vl r.2=vl a:=by
 unfold dq;have a6:=jL p E;have O:=aZ D.dig;have a1:0<b.length:=List.length_pos_iff.2 E;refine Ok.cd (fun h=>?_) (fun h=>?_)
 ·have S:b.length=1:=by simp at h;omega
  obtain⟨d,rfl⟩:∃d,b=[d]:=by
   match b,S with
   |[d],_=>exact⟨d,rfl⟩
  have hd:=fV.1 p.dig;have a7:d≠0:=p.2.1 rfl;refine Ok.gd rfl ?_;have e:gt [d] 0=d:=rfl;rw[e,aE hd.1 (by omega)];refine Ok.bd (nY j D.dig (by omega) (by omega) (by omega)) ?_;rintro⟨q,r⟩ ⟨I,J,M⟩;simp only at I J M;dsimp only;rw[bj J.1 (by omega)];refine Ok.bd (xT j (fV.2 (by omega)) (by simp)) ?_;rintro z ⟨z1,z2⟩;rw[gY]at z2;refine ar.2 ⟨I,z1,?_,?_⟩
  ·simp only[z2,gY];exact J.2
  ·simp only[z2,gY];exact M
 ·have S:2<=b.length:=by simp at h;omega
  refine Ok.bde (zf j D p (by omega) (by omega)) ?_;have hs:=cM (vl a-vl b);refine Ok.cd (fun h=>?_) (fun h=>?_)
  ·have T:vl a<vl b:=by have:=dcT h;omega
   exact ar.2 ⟨trivial,D,T,by show 0*vl b+vl a=vl a;omega⟩
  ·have hle:vl b<=vl a:=by have:=dcF h;omega
   rw[lS (k:=b.length) (by omega) (by omega),dN];have dt:=cI p.dig (b.length-1);obtain⟨t1,t2,t3,t4⟩:=uB p (by omega);rw[aE (n:=b.getD (b.length-1) 0) (by omega) (by omega),aE (n:=b.getD (b.length-1) 0+1) (by omega) (by omega),(pd (by omega:(0:Int)<=1000000000)).1];obtain⟨s,C⟩:∃s,(1000000000:Int) / (b.getD (b.length-1) 0+1)=s:=⟨_,rfl⟩;obtain⟨s1,s2,s3,s4⟩:=rR t1 t2 C.symm;rw[C,aE (n:=s) (by omega) (by omega)];refine Ok.gd (by rw[bb];simp;omega) (Ok.gd (by rw[decide_eq_false (by omega)];rfl) ?_);refine Ok.bd (uJ j D.dig (by omega) (by omega) (by omega)) ?_;rintro A ⟨N,A2⟩;refine Ok.bd (uJ j p.dig (by omega) (by omega) (by omega)) ?_;rintro v ⟨v1,v2⟩;obtain⟨lv,U,_,_⟩:=Az p (by omega) C.symm v1 v2;have lA:A.length<=a.length+1:=kK N (by
    have h1:=gL D.dig;rw[A2,cL];have:vl a*s<=vl a*1000000000:=mlT (by omega) O;omega)
   have a8:v.length<=A.length:=by
    by_cases h:v.length<=A.length
    ·exact h
    ·have:=cr N.dig v1 (by omega);have:vl b*s<=vl a*s:=mrT hle (by omega);omega
   have Y:Jt ((A.length:Int)-(b.length:Int))=((A.length-b.length:Nat):Int):=by rw[wrap64_in (by omega) (by omega)];omega
   rw[Y,jI (by omega)];obtain⟨m,hm⟩:∃m,A.length-b.length+1=m:=⟨_,rfl⟩;rw[hm,Int.toNat_natCast,Int.toNat_natCast];have et:(A.drop m).take (A.length-m)=A.drop m:=by rw[List.take_of_length_le];rw[List.length_drop];omega
   rw[et];refine Ok.gd (ug.2 (by omega)) ?_;refine Ok.bd (xT j (iN N.dig m) (by rw[List.length_drop];omega)) ?_;rintro r0 ⟨r1,r2⟩;refine Ok.gd (by simp) (Ok.gd (by simp;omega) (Ok.gd (by simp;omega) ?_));have Z:vl r0.Groups<vl v:=by
    have h1:=gL (iN N.dig m);rw[List.length_drop,(by omega:A.length-m=v.length-1)]at h1;obtain⟨c1,c2,c3,c4⟩:=uB v1 (by omega);have hp:=gM (v.length-1);have:pB (v.length-1)*1<=pB (v.length-1)*v.getD (v.length-1) 0:=mlT c1 (by omega);omega
   refine Ok.bd (DS j v1 lv.symm U (by omega) (by omega) N.dig (m:=m) (by omega) (by omega) r1 Z r2 (by omega)) ?_;rintro⟨w,q⟩ ⟨w1,w2,I,J,M⟩;simp only at w1 w2 I J M;dsimp only;have lw:w.length<=900:=by
    by_cases S:w.length<=v.length
    ·omega
    ·have:=cr v1.dig w1 (by omega);omega
   refine Ok.bd (nY j w1.dig lw (by omega) (by omega)) ?_;rintro⟨y,c⟩ ⟨y1,y2,y3⟩;simp only at y1 y2 y3;refine Ok.bd (xT j I (by omega)) ?_;rintro z ⟨z1,z2⟩;obtain⟨f1,f2⟩:=EF (a:=vl a) (b:=vl b) (q:=vl q) s2 y2 y3 (by rw[<-v2];exact w2) (by rw[<-v2,<-A2,M]);refine ar.2 ⟨z1,y1,f1,?_⟩;simp only;rw[z2];exact f2
theorem BX{n:Nat}{g:List Int}(h:Dig g)(q:g.length<=2):dH n g=some (vl g)/\0<=vl g/\vl g<1000000000000000000:=by
 unfold dH;have e1:aV n g 1=some (g.getD 1 0):=mQ (k:=1) h;have e0:aV n g 0=some (g.getD 0 0):=mQ (k:=0) h;rw[e1,e0];have d0:=cI h 0;have d1:=cI h 1;have m:vl g=g.getD 0 0+1000000000*g.getD 1 0:=by
  have a0:vl (g.drop 0)=g.getD 0 0+1000000000*vl (g.drop 1):=iy g 0;have j:=iy g 1;rw[List.drop_of_length_le (by omega:g.length<=1+1)]at j;have p:vl ([]:List Int)=0:=rfl;rw[List.drop_zero]at a0;have j:vl (g.drop 1)=g.getD 1 0+1000000000*vl []:=j;omega
 show some _=_/\_;rw[aE (n:=g.getD 1 0*1000000000) (by omega) (by omega),aE (n:=g.getD 1 0*1000000000+g.getD 0 0) (by omega) (by omega),m];exact⟨congrArg some (by omega),by omega,by omega⟩
theorem qT(x y:Nat):Nat.gcd y (x%y)=Nat.gcd x y:=by rw[Nat.gcd_comm x y,Nat.gcd_rec y x,Nat.gcd_comm]
theorem xu{n:Nat}{x y:ag}{v w:Int}(hn:20000<=n)(U:isI x.Negative x.Groups v)(C:isI y.Negative y.Groups w)(lx:x.Groups.length<=250)(ly:y.Groups.length<=250):Ok (fU n x y) fun z=>isI z.Negative z.Groups (gZ v w):=by
 unfold fU;refine Ok.bde (kC (by omega) (by omega) U) (Ok.bde (kC (by omega) (by omega) C) ?_);have ex:v.natAbs=(vl x.Groups).toNat:=by have:=gV U;omega
 have ey:w.natAbs=(vl y.Groups).toNat:=by have:=gV C;omega
 have e0:gZ v w=((Nat.gcd (vl x.Groups).toNat (vl y.Groups).toNat:Nat):Int):=by unfold gZ;rw[ex,ey]
 refine Ok.bd (R:=fun o=>Can o.1/\Can o.2/\o.1.length<=250/\o.2.length<=250/\((Nat.gcd (vl o.1).toNat (vl o.2).toNat:Nat):Int)=gZ v w/\(o.2≠[]->o.1.length<=2/\o.2.length<=2)) ?_ ?_
 ·refine dx (fun p:List Int×List Int=>Can p.1/\Can p.2/\p.1.length<=250/\p.2.length<=250/\((Nat.gcd (vl p.1).toNat (vl p.2).toNat:Nat):Int)=gZ v w) (fun p=>gm (vl p.1).toNat (vl p.2).toNat) ?_ n _ ⟨U.1,C.1,lx,ly,e0.symm⟩ ?_
  ·rintro again ⟨a,b⟩ ⟨D,E,M,lb,I⟩ ih;simp only at D E M lb I;dsimp only;have N:=aZ D.dig;refine Ok.cd (fun h=>?_) (fun h=>?_)
   ·have j:b≠[]:=by rintro rfl;simp at h
    have b3:=jL E j;have rest:Ok (bdO (dq n a b) fun Z=>again (b,Z.2)) fun o=>Can o.1/\Can o.2/\o.1.length<=250/\o.2.length<=250/\((Nat.gcd (vl o.1).toNat (vl o.2).toNat:Nat):Int)=gZ v w/\(o.2≠[]->o.1.length<=2/\o.2.length<=2):=by
     refine Ok.bd (zp (by omega) D E j (by omega) (by omega)) ?_;rintro⟨q,r⟩ ⟨q1,r1,r2,r3⟩;simp only at q1 r1 r2 r3;have a1:=aZ r1.dig;have er:vl r=vl a%vl b:=by
      have h1:(vl q*vl b+vl r)%vl b=vl r%vl b:=by rw[Int.add_comm,Int.add_mul_emod_self_right]
      rw[<-r3,h1,Int.emod_eq_of_lt a1 r2]
     have O:(vl r).toNat=(vl a).toNat%(vl b).toNat:=by
      rw[er,Int.toNat_emod N (by omega)]
     have a6:r.length<=250:=by
      by_cases hl:r.length<=250
      ·exact hl
      ·have:=cr E.dig r1 (by omega);omega
     exact ih _ ⟨E,r1,lb,a6,by simp only;rw[O,qT];exact I⟩ (by simp only;rw[O];exact vW (by omega))
    refine Ok.cd (fun h1=>rest) (fun h1=>Ok.cd (fun h2=>rest) (fun h2=>?_));have:=dcF h1;have:=dcF h2;exact ar.2 ⟨D,E,M,lb,I,fun _=>⟨(show a.length<=2 by omega),(show b.length<=2 by omega)⟩⟩
   ·have j:b=[]:=by
     cases b with
     |nil=>rfl
     |cons=>exact absurd (dcF h) (by simp)
    exact ar.2 ⟨D,E,M,lb,I,fun h=>absurd j h⟩
  ·obtain⟨K,hK⟩:∃K:Nat,K=250:=⟨_,rfl⟩;have h1:=yW U.1.dig (k:=K) (by omega);have h2:=yW C.1.dig (k:=K) (by omega);have S:=Nat.mul_lt_mul'' h1 h2;rw[<-Nat.pow_add]at S;have:=tL S;simp only;omega
 ·rintro⟨a,b⟩ ⟨D,E,M,lb,I,hs⟩;simp only at D E M lb I hs;dsimp only;have N:=aZ D.dig;refine Ok.cd (fun h=>?_) (fun h=>?_)
  ·have j:b=[]:=by simpa using h
   subst j;refine Ok.bd (dy (by omega) false D.dig (by omega)) fun y C=>ar.2 ?_
   have e:vl a=gZ v w:=by
    rw[<-I];show vl a=((Nat.gcd (vl a).toNat 0:Nat):Int);rw[Nat.gcd_zero_right];omega
   rw[e]at C;exact C
  ·have j:b≠[]:=by rintro rfl;simp at h
   obtain⟨a7,a8⟩:=hs j;have wa:=BX (n:=n) D.dig a7;have wb:=BX (n:=n) E.dig a8;refine Ok.bde wa.1 (Ok.bde wb.1 ?_);refine Ok.bd (R:=fun m=>m=gZ v w/\m<1000000000000000000) ?_ ?_
   ·refine dx (fun p:Int×Int=>0<=p.1/\p.1<1000000000000000000/\0<=p.2/\p.2<1000000000000000000/\((Nat.gcd p.1.toNat p.2.toNat:Nat):Int)=gZ v w) (fun p=>gm p.1.toNat p.2.toNat) ?_ n _ ⟨wa.2.1,wa.2.2,wb.2.1,wb.2.2,I⟩ ?_
    ·rintro Y ⟨c,d⟩ ⟨c1,c2,d1,d2,J⟩ b0;simp only at c1 c2 d1 d2 J;dsimp only;refine Ok.cd (fun h=>?_) (fun h=>?_)
     ·have hd:=dcT h;refine Ok.gd (by rw[decide_eq_false (by omega)];rfl) ?_;rw[(pd c1).2];have b1:=Int.emod_nonneg c (by omega:d≠0);have b2:=Int.emod_lt_of_pos c (by omega:0<d);have em:(c%d).toNat=c.toNat%d.toNat:=Int.toNat_emod c1 d1;exact b0 _ ⟨d1,d2,b1,by simp only;omega,by simp only;rw[em,qT];exact J⟩ (by simp only;rw[em];exact vW (by omega))
     ·have hd:=dcF h;have:d=0:=by omega
      subst this;refine ar.2 ⟨?_,c2⟩;rw[<-J];simp[Nat.gcd_zero_right];omega
    ·have:gm (vl a).toNat (vl b).toNat<=120+3:=tL (by
      have h1:(vl a).toNat<2^60:=by omega
      have h2:(vl b).toNat<2^60:=by omega
      have S:(vl a).toNat*(vl b).toNat<2^60*2^60:=Nat.mul_lt_mul'' h1 h2;rw[<-Nat.pow_add]at S;exact S)
     simp only;omega
   ·rintro m ⟨hm,b2⟩;have T:0<=m:=by rw[hm];exact Int.natCast_nonneg _
    rw[(pd T).1,(pd T).2,aE (n:=m / 1000000000) (by omega) (by omega),bj (n:=m / 1000000000) (by omega) (by omega),bj (n:=m%1000000000) (by omega) (by omega)];refine Ok.bd (dy (by omega) false (iQ.2 ⟨by omega,fV.2 (by omega)⟩) (by simp)) fun y C=>ar.2 ?_
    have e:vl [m%1000000000,m / 1000000000]=m:=by
     show m%1000000000+1000000000*vl [m / 1000000000]=m;rw[gY];omega
    simp only[Bool.false_eq_true,if_false]at C;rw[e,hm]at C;exact C
theorem qn{n:Nat}{x y:ag}{v w:Int}(j:1000<=n)(m:isI x.Negative x.Groups v)(p:isI y.Negative y.Groups w)(q:x.Groups.length<=400)(C:y.Groups.length<=400):fu n x y=some (sgn (v-w)):=by
 apply Ok.eq;unfold fu;refine Ok.bd (DX j m p q C) fun z D=>?_
 have:=vt m p D q C;exact Ok.bde (jK j (by omega) D) (ar.2 rfl)
theorem jX{n:Nat}{x y:ag}{k w:Int}(I:1000<=n)(j:isI x.Negative x.Groups (k*w))(C:isI y.Negative y.Groups w)(hw:w≠0)(Y:x.Groups.length<=250)(ly:y.Groups.length<=250):Ok (df n x y) fun z=>isI z.1.Negative z.1.Groups k:=by
 unfold df;refine Ok.bde (kC I (by omega) j) (Ok.bde (kC I (by omega) C) ?_);have D:y.Groups≠[]:=by
  intro h;have:=C.2.2;rw[h]at this;have e:vl ([]:List Int)=0:=rfl;rw[e]at this;apply hw;rw[this];split<;>rfl
 refine Ok.cd (fun h=>absurd h (by simp[D])) (fun h=>?_);refine Ok.bd (zp I j.1 C.1 D (by omega) (by omega)) ?_;rintro⟨c,d⟩ ⟨c1,d1,d2,d3⟩;simp only at c1 d1 d2 d3;dsimp only;have hyp:=jL C.1 D;have Z:=aZ c1.dig;have dp:=aZ d1.dig;have ax:=gV j;have ay:=gV C;have em:vl x.Groups=(k.natAbs:Int)*vl y.Groups:=by rw[ax,ay,Int.natAbs_mul];push_cast;rfl
 have S:vl c=(k.natAbs:Int)/\vl d=0:=by
  have e:((k.natAbs:Int)-vl c)*vl y.Groups=vl d:=by rw[Int.sub_mul];omega
  have h0:(k.natAbs:Int)-vl c=0:=by
   by_cases h1:(k.natAbs:Int)-vl c=0
   ·exact h1
   ·exfalso;by_cases h2:1<=(k.natAbs:Int)-vl c
    ·have:1*vl y.Groups<=((k.natAbs:Int)-vl c)*vl y.Groups:=mrT h2 (by omega);omega
    ·have:((k.natAbs:Int)-vl c)*vl y.Groups<=(-1)*vl y.Groups:=mrT (by omega) (by omega);omega
  rw[h0]at e;omega
 have lc:c.length<=250:=by
  by_cases hl:c.length<=250
  ·exact hl
  ·have:=cr j.1.dig c1 (by omega);have:vl c*1<=vl c*vl y.Groups:=mlT (by omega) Z;omega
 have J:d=[]:=rD d1 S.2;subst J;refine Ok.bd (dy I _ c1.dig (by omega)) fun z hz=>?_
 have q:isI z.Negative z.Groups k:=by
  have T:=j.2.2;have U:=C.2.2;have:k=(if (x.Negative !=y.Negative)=true then-vl c else vl c):=by
   rw[S.1];have hk:k=0\/0<k\/k<0:=by omega
   cases E:x.Negative<;>cases M:y.Negative<;>rw[E]at T<;>rw[M]at U<;>simp only[Bool.false_eq_true,if_false,if_true]at T U<;>simp<;>rcases hk with hk|hk|hk<;>try omega;all_goals exfalso
   all_goals
    first
    |(have N:=Int.mul_neg_of_neg_of_pos hk (by omega:0<w);have:=aZ j.1.dig;omega)
    |(have N:=Int.mul_pos hk (by omega:0<w);have O:=jL j.1 (j.2.1 E);omega)
    |(have N:=Int.mul_neg_of_pos_of_neg hk (by omega:w<0);have:=aZ j.1.dig;omega)
    |(have N:=Int.mul_pos_of_neg_of_neg hk (by omega:w<0);have O:=jL j.1 (j.2.1 E);omega)
  rw[this];exact hz
 have a1:=gL c1.dig;have a6:=ik lc;have lz:=gU q (k:=250) (by omega) (by omega);have tail:∀{β:Type} (f:ag->ag->Option β) {Q:β->Prop},(∀m d,Ok (f m d) Q)->Ok (bdO (cg n z y) fun v20=>bdO (dd n x v20) fun v22=>f v20 v22) Q:=by
  intro β f Q hf;refine Ok.bd (kR I q C (by omega) (by omega)) fun p hp=>?_
  have lp:p.Groups.length<=250:=by rw[(Bl hp j).2];exact Y
  exact Ok.bd (DX I j hp (by omega) (by omega)) fun d _=>hf p d
 refine Ok.cd (fun h=>?_) (fun h=>?_)
 ·refine Ok.cd (fun h=>absurd (dcT h) (by simp)) (fun h=>?_);exact tail (fun m d=>some ((z,d,0))) fun m d=>ar.2 q
 ·exact tail (fun m d=>some ((z,d,0))) fun m d=>ar.2 q
end Go.L.R


set_option linter.all false
namespace Go.L.R
open Go Go.Eng Go.L
def Qx(x:ae)(r:Rat)(k:Nat):Prop:=QL x.Num.Negative x.Num.Groups x.Den.Negative x.Den.Groups r k
theorem mB{p q:Bool}{g h:List Int}{v:Int}(a:isI p g v)(b:isI q h (-v)){k:Nat}(hk:g.length<=k):h.length<=k:=by
 have:=jA a hk;exact gU b (by omega) (by omega)
theorem jV{n:Nat}{x y:ag}{p q:Int}{k:Nat}(Y:20000<=n)(hk:k<=250)(M:isI x.Negative x.Groups p)(E:isI y.Negative y.Groups q)(Z:x.Groups.length<=k)(ly:y.Groups.length<=k)(O:q≠0):
  Ok (dU n x y) fun z=>Qx z (Rat.divInt p q) k:=by
 unfold dU;have S:=Bc (v:=p) O;refine Ok.bd (xu Y M E (by omega) (by omega)) fun g j=>?_
 have bq:=jA E ly;have bp:=jA M Z;have N:=rz p q;have C:=qg p q;have ap:=lk p _ S N;have aq:=lk q _ S C;have a1:q / gZ p q≠0:=by intro h;rw[h,Int.zero_mul]at C;exact O C
 have gq:gZ p q<=(q.natAbs:Int):=by
  have e:q.natAbs=(q / gZ p q).natAbs*(gZ p q).natAbs:=by rw[<-Int.natAbs_mul,<-C]
  have:1*(gZ p q).natAbs<=(q / gZ p q).natAbs*(gZ p q).natAbs:=Nat.mul_le_mul_right _ (by omega);omega
 have lg:g.Groups.length<=k:=gU j (by omega) (by omega);refine Ok.bde (jK (by omega) (by omega) E) ?_;have hs:=cM q;refine Ok.cd (fun h=>?_) (fun h=>?_)
 ·have T:q<0:=by have:=dcT h;omega
  refine Ok.bd (og (by omega) (by omega) j) fun g' D=>?_
  have a6:=mB j D lg;refine Ok.bd (jX (k:=-(p / gZ p q)) (by omega) (by rw[Int.neg_mul_neg,<-N];exact M) D (by omega) (by omega) (by omega)) fun a I=>?_
  refine Ok.bd (jX (k:=-(q / gZ p q)) (by omega) (by rw[Int.neg_mul_neg,<-C];exact E) D (by omega) (by omega) (by omega)) fun b J=>ar.2 ?_
  have U:gZ (-p) (-q)=gZ p q:=by unfold gZ;rw[Int.natAbs_neg,Int.natAbs_neg]
  have e1:(Rat.divInt p q).num=-(p / gZ p q):=by
   rw[<-sR,ow (by omega),U];rw[show-p=(-(p / gZ p q))*gZ p q by rw[Int.neg_mul,<-N],Int.mul_ediv_cancel _ (by omega)]
  have e2:((Rat.divInt p q).den:Int)=-(q / gZ p q):=by
   rw[<-sR,oa (by omega),U];rw[show-q=(-(q / gZ p q))*gZ p q by rw[Int.neg_mul,<-C],Int.mul_ediv_cancel _ (by omega)]
  exact⟨by rw[e1];exact I,by rw[e2];exact J,gU I (by omega) (by omega),gU J (by omega) (by omega)⟩
 ·have m:0<q:=by have:=dcF h;omega
  refine Ok.bd (jX (k:=p / gZ p q) (by omega) (by rw[<-N];exact M) j (by omega) (by omega) (by omega)) fun a I=>?_
  refine Ok.bd (jX (k:=q / gZ p q) (by omega) (by rw[<-C];exact E) j (by omega) (by omega) (by omega)) fun b J=>ar.2 ?_
  exact⟨by rw[ow m];exact I,by rw[oa m];exact J,gU I (by omega) (by omega),gU J (by omega) (by omega)⟩
theorem rL{n:Nat}{v:Int}(q:20000<=n)(j:-9223372036854775808<=v)(m:v<=9223372036854775807):Ok (ck n v) fun z=>isI z.Negative z.Groups v:=by
 unfold ck;exact Ok.bd (sC (by omega) j m) fun a p=>ar.2 p
theorem nC{n:Nat}{x:ae}{r:Rat}{k:Nat}(m:20000<=n)(hk:k<=250)(h:Qx x r k):cG n x=some true:=by
 apply Ok.eq;unfold cG;have hp:=den_pos r;have p:=h.nl;have q:=h.dl;refine Ok.bde (lP (by omega) (by omega) h.num) (Ok.cd (fun h=>by cases h) fun _=>?_);refine Ok.bde (lP (by omega) (by omega) h.den) (Ok.cd (fun h=>by cases h) fun _=>?_);refine Ok.bde (jK (by omega) (by omega) h.den) ?_;rw[qe hp];refine Ok.cd (fun h=>absurd h (by decide)) fun _=>?_
 refine Ok.bd (xu m h.num h.den (by omega) (by omega)) fun g j=>?_
 rw[DG]at j;refine Ok.bd (rL (by omega) (by decide) (by decide)) fun one h1=>?_
 have l1:=fw h1 (by decide) (by decide);have z:=fw j (by decide) (by decide);exact Ok.bde (qn (by omega) j h1 (by omega) (by omega)) (ar.2 rfl)
theorem eJ{n:Nat}{x:ae}{r:Rat}{k:Nat}(j:20000<=n)(hk:k<=250)(h:Qx x r k):cQ n x=some x:=by
 unfold cQ;rw[nC j hk h];rfl
theorem gG{n:Nat}{v:Int}(C:20000<=n)(j:-9223372036854775808<=v)(m:v<=9223372036854775807):Ok (cR n v) fun z=>Qx z (Rat.divInt v 1) 3:=by
 unfold cR;refine Ok.bd (rL (by omega) j m) fun a p=>Ok.bd (rL (by omega) (by decide) (by decide)) fun b q=>ar.2 ?_
 obtain⟨e1,e2⟩:=xW v;exact⟨by rw[e1];exact p,by rw[e2];exact q,fw p j m,fw q (by decide) (by decide)⟩
theorem xb{n:Nat}{p q:Int}(J:20000<=n)(D:-9223372036854775808<=p)(E:p<=9223372036854775807)(h1:-9223372036854775808<=q)(j:q<=9223372036854775807)(M:q≠0):Ok (iM n p q) fun z=>Qx z.1 (Rat.divInt p q) 3/\z.2=0:=by
 unfold iM fe;refine Ok.bd (rL (by omega) D E) fun a I=>Ok.bd (rL (by omega) h1 j) fun b m=>?_
 have N:=fw I D E;have lb:=fw m h1 j;refine Ok.bd (R:=fun z=>Qx z.1 (Rat.divInt p q) 3/\z.2=0) ?_ fun z C=>ar.2 C
 refine Ok.bde (jK (by omega) (by omega) m) ?_;have hs:=cM q;refine Ok.cd (fun h=>?_) (fun h=>?_)
 ·have:sgn q=0:=by simpa using h
  omega
 ·exact Ok.bd (jV J (by omega) I m N lb M) fun z C=>ar.2 ⟨C,rfl⟩
theorem zg(a b:Rat):Rat.divInt (a.num*(b.den:Int)+b.num*(a.den:Int)) ((a.den:Int)*(b.den:Int))=a+b:=by
 have h1:=den_pos a;have h2:=den_pos b;rw[<-Rat.divInt_add_divInt _ _ (by omega) (by omega),Rat.num_divInt_den,Rat.num_divInt_den]
theorem jj{n:Nat}{x y:ae}{a b:Rat}{j k:Nat}(E:20000<=n)(hk:j+k+1<=250)(m:Qx x a j)(C:Qx y b k):Ok (fT n x y) fun z=>Qx z (a+b) (j+k+1):=by
 unfold fT;refine Ok.bde (eJ E (by omega) m) (Ok.bde (eJ E (by omega) C) ?_);have M:=m.nl;have n2:=C.nl;have d1:=m.dl;have d2:=C.dl;refine Ok.bd (kR (by omega) m.num C.den (by omega) (by omega)) fun p hp=>Ok.bd (kR (by omega) C.num m.den (by omega) (by omega)) fun O D=>?_
 have S:=eD m.num C.den hp M d2;have N:=eD C.num m.den D n2 d1;refine Ok.bd (xj (by omega) hp D (by omega) (by omega)) fun s hs=>Ok.bd (kR (by omega) m.den C.den (by omega) (by omega)) fun q I=>?_
 have ls:=rT hp D hs (k:=j+k) (by omega) (by omega);have T:=eD m.den C.den I d1 d2;have h1:=den_pos a;have h2:=den_pos b;have U:(0:Int)<(a.den:Int)*(b.den:Int):=Int.mul_pos h1 h2;refine Ok.bd (jV E hk hs I (by omega) (by omega) (by omega)) fun z J=>ar.2 ?_
 rw[zg]at J;exact J
theorem ql{n:Nat}{x:ae}{a:Rat}{k:Nat}(p:20000<=n)(hk:k<=250)(j:Qx x a k):Ok (iD n x) fun z=>Qx z (-a) k:=by
 unfold iD;have q:=j.nl;refine Ok.bde (eJ p hk j) (Ok.bd (og (by omega) (by omega) j.num) fun z m=>ar.2 ?_);exact⟨(show(-a).num=-a.num from rfl)▸m,(show(-a).den=a.den from rfl)▸j.den,mB j.num m j.nl,j.dl⟩
theorem oN{n:Nat}{x y:ae}{a b:Rat}{j k:Nat}(m:20000<=n)(hk:j+k+1<=250)(p:Qx x a j)(q:Qx y b k):Ok (ir n x y) fun z=>Qx z (a-b) (j+k+1):=by
 unfold ir;refine Ok.bd (ql m (by omega) q) fun v C=>Ok.bd (jj m hk p C) fun z D=>ar.2 ?_
 rw[Rat.sub_eq_add_neg];exact D
theorem Ar{n:Nat}{x:ae}{a:Rat}{k:Nat}(m:20000<=n)(hk:k<=250)(j:Qx x a k):fx n x=some (sgn a.num):=by
 unfold fx;have p:=j.nl;rw[eJ m hk j];show bdO (cJ n x.Num) _=_;rw[jK (by omega) (by omega) j.num];rfl
theorem zG{n:Nat}{x y:ae}{a b:Rat}{j k:Nat}(m:20000<=n)(hk:j+k+1<=250)(p:Qx x a j)(q:Qx y b k):ft n x y=some (sgn (a-b).num):=by
 apply Ok.eq;unfold ft;exact Ok.bd (oN m hk p q) fun v z=>Ok.bde (Ar m hk z) (ar.2 rfl)
theorem tF{n:Nat}{x y:ae}{a:Rat}{j k:Nat}(m:20000<=n)(hk:j+k+1<=250)(p:Qx x a j)(q:Qx y a k):cK n x y=some true:=by
 apply Ok.eq;unfold cK;refine Ok.bde (nC m (by omega) p) (Ok.cd (fun _=>?_) fun h=>by cases h);refine Ok.bde (nC m (by omega) q) (Ok.cd (fun _=>?_) fun h=>by cases h);refine Ok.bde (zG m hk p q) (ar.2 ?_);rw[Rat.sub_self];rfl
end Go.L.R


set_option linter.unusedVariables false
namespace Go.L
open Go Go.Eng
theorem QL.tight{nn m:Bool}{ng z:List Int}{r:Rat}{j:Nat}(h:QL nn ng m z r j){p q:Int}{k:Nat}(E:r=Rat.divInt p q)(C:0<q)(h1:-pB k<p)(h2:p<pB k)(I:q<pB k):QL nn ng m z r k:=by
 subst E;have D:=Bc (v:=p) (w:=q) (by omega);have J:=lk p _ D (rz p q);have a2:=lk q _ D (qg p q);have e1:=ow (p:=p) C;have e2:=oa (p:=p) C;refine⟨h.num,h.den,gU h.num (by rw[e1];omega) (by rw[e1];omega),gU h.den (by rw[e2];have:=gM k;omega) (by rw[e2];omega)⟩
theorem ja(a:Int):Rat.divInt a 1=(a:Rat):=by
 rw[Rat.divInt_eq_div];grind
end Go.L


set_option linter.unusedVariables false
namespace Go.L
open Go Go.Eng
end Go.L


set_option linter.all false
namespace Go.L
open Go Go.Eng
theorem EE{a b:Rat}:Rat.divInt (a.num*(b.den:Int)) ((a.den:Int)*b.num)=a / b:=by
 rw[Rat.div_def,Rat.inv_def,<-Rat.divInt_mul_divInt,Rat.num_divInt_den]
theorem FW{b:Rat}(h:b≠0):b.num≠0:=fun e=>h (Rat.num_eq_zero.1 e)
theorem ql{n:Nat}{x:ae}{a:Rat}{k:Nat}(p:20000<=n)(hk:k<=250)(q:Qx x a k):Ok (eZ n x) fun z=>Qx z (-a) k:=by
 unfold eZ;refine Ok.bd (eJ p hk q) fun v j=>?_
 have C:=j.nl;refine Ok.bd (og (by omega) (by omega) j.num) fun z m=>ar.2 ?_
 exact⟨(show(-a).num=-a.num from rfl)▸m,(show(-a).den=a.den from rfl)▸j.den,mB j.num m j.nl,j.dl⟩
theorem oN{n:Nat}{x y:ae}{a b:Rat}{j k:Nat}(m:20000<=n)(hk:j+k+1<=250)(p:Qx x a j)(q:Qx y b k):Ok (eu n x y) fun z=>Qx z (a-b) (j+k+1):=by
 unfold eu;refine Ok.bd (ql m (by omega) q) fun v C=>Ok.bd (jj m hk p C) fun z D=>ar.2 ?_
 rw[Rat.sub_eq_add_neg];exact D
end Go.L

