import Derived.Test.YtlhnaccgnegjdaaGreatNesL01v
import Derived.Test.YtlhnaccgnegjdaaGreatNesL02pB
set_option linter.all false
namespace Go.L.R
open Go Go.Eng Go.L
theorem BK{n:Nat}{a b:List Int}(j:1000<=n)(ha:Can a)(hb:Can b)(C:b≠[])(la:a.length<=300)(lb:b.length<=300):Ok (dw n a b) fun r=>Can r.1/\Can r.2/\vl r.2<vl b/\vl r.1*vl b+vl r.2=vl a:=by
 unfold dw;have a2:=jM hb C;have N:=ba ha.dig;have a1:0<b.length:=List.length_pos_iff.2 C;refine Ok.cd (fun h=>?_) (fun h=>?_)
 ·have O:b.length=1:=by simp at h;omega
  obtain⟨d,rfl⟩:∃d,b=[d]:=by
   match b,O with
   |[d],_=>exact⟨d,rfl⟩
  have hd:=fN.1 hb.dig;have a3:d≠0:=hb.2.1 rfl;refine Ok.gd rfl ?_;have e:gt [d] 0=d:=rfl;rw[e,aF hd.1 (by omega)];refine Ok.bd (oT j ha.dig (by omega) (by omega) (by omega)) ?_;rintro⟨q,r⟩ ⟨D,E,I⟩;simp only at D E I;dsimp only;rw[bf E.1 (by omega)];refine Ok.bd (y6 j (fN.2 (by omega)) (by simp)) ?_;rintro z ⟨z1,J⟩;rw[hZ]at J;refine aw.2 ⟨D,z1,?_,?_⟩
  ·simp only[J,hZ];exact E.2
  ·simp only[J,hZ];exact I
 ·have O:2<=b.length:=by simp at h;omega
  refine Ok.bde (z7 j ha hb (by omega) (by omega)) ?_;have hs:=cR (vl a-vl b);refine Ok.cd (fun h=>?_) (fun h=>?_)
  ·have T:vl a<vl b:=by have:=dcT h;omega
   exact aw.2 ⟨trivial,ha,T,by show 0*vl b+vl a=vl a;omega⟩
  ·have hle:vl b<=vl a:=by have:=dcF h;omega
   rw[lY (k:=b.length) (by omega) (by omega),dY];have dt:=cB hb.dig (b.length-1);obtain⟨t1,t2,t3,t4⟩:=u4 hb (by omega);rw[aF (n:=b.getD (b.length-1) 0) (by omega) (by omega),aF (n:=b.getD (b.length-1) 0+1) (by omega) (by omega),(pN (by omega:(0:Int)<=1000000000)).1];obtain⟨s,p⟩:∃s,(1000000000:Int) / (b.getD (b.length-1) 0+1)=s:=⟨_,rfl⟩;obtain⟨s1,s2,s3,s4⟩:=rV t1 t2 p.symm;rw[p,aF (n:=s) (by omega) (by omega)];refine Ok.gd (by rw[aR];simp;omega) (Ok.gd (by rw[decide_eq_false (by omega)];rfl) ?_);refine Ok.bd (vp j ha.dig (by omega) (by omega) (by omega)) ?_;rintro A ⟨M,A2⟩;refine Ok.bd (vp j hb.dig (by omega) (by omega) (by omega)) ?_;rintro v ⟨v1,v2⟩;obtain⟨lv,U,_,_⟩:=BV hb (by omega) p.symm v1 v2;have lA:A.length<=a.length+1:=lf M (by
    have h1:=gP ha.dig;rw[A2,cE];have:vl a*s<=vl a*1000000000:=mlT (by omega) N;omega)
   have a4:v.length<=A.length:=by
    by_cases h:v.length<=A.length
    ·exact h
    ·have:=ck M.dig v1 (by omega);have:vl b*s<=vl a*s:=mrT hle (by omega);omega
   have Y:Jy ((A.length:Int)-(b.length:Int))=((A.length-b.length:Nat):Int):=by rw[wrap64_in (by omega) (by omega)];omega
   rw[Y,jR (by omega)];obtain⟨m,hm⟩:∃m,A.length-b.length+1=m:=⟨_,rfl⟩;rw[hm,Int.toNat_natCast,Int.toNat_natCast];have et:(A.drop m).take (A.length-m)=A.drop m:=by rw[List.take_of_length_le];rw[List.length_drop];omega
   rw[et];refine Ok.gd (uW.2 (by omega)) ?_;refine Ok.bd (y6 j (jf M.dig m) (by rw[List.length_drop];omega)) ?_;rintro r0 ⟨r1,r2⟩;refine Ok.gd (by simp) (Ok.gd (by simp;omega) (Ok.gd (by simp;omega) ?_));have a0:vl r0.Groups<vl v:=by
    have h1:=gP (jf M.dig m);rw[List.length_drop,(by omega:A.length-m=v.length-1)]at h1;obtain⟨c1,c2,c3,c4⟩:=u4 v1 (by omega);have hp:=gF (v.length-1);have:pB (v.length-1)*1<=pB (v.length-1)*v.getD (v.length-1) 0:=mlT c1 (by omega);omega
   refine Ok.bd (Fk j v1 lv.symm U (by omega) (by omega) M.dig (m:=m) (by omega) (by omega) r1 a0 r2 (by omega)) ?_;rintro⟨w,q⟩ ⟨w1,w2,D,E,I⟩;simp only at w1 w2 D E I;dsimp only;have lw:w.length<=900:=by
    by_cases O:w.length<=v.length
    ·omega
    ·have:=ck v1.dig w1 (by omega);omega
   refine Ok.bd (oT j w1.dig lw (by omega) (by omega)) ?_;rintro⟨y,c⟩ ⟨y1,y2,y3⟩;simp only at y1 y2 y3;refine Ok.bd (y6 j D (by omega)) ?_;rintro z ⟨z1,J⟩;obtain⟨f1,f2⟩:=GD (a:=vl a) (b:=vl b) (q:=vl q) s2 y2 y3 (by rw[<-v2];exact w2) (by rw[<-v2,<-A2,I]);refine aw.2 ⟨z1,y1,f1,?_⟩;simp only;rw[J];exact f2
theorem Df{n:Nat}{g:List Int}(h:Dig g)(z:g.length<=2):dG n g=some (vl g)/\0<=vl g/\vl g<1000000000000000000:=by
 unfold dG;have e1:aZ n g 1=some (g.getD 1 0):=ns (k:=1) h;have e0:aZ n g 0=some (g.getD 0 0):=ns (k:=0) h;rw[e1,e0];have d0:=cB h 0;have d1:=cB h 1;have m:vl g=g.getD 0 0+1000000000*g.getD 1 0:=by
  have p:vl (g.drop 0)=g.getD 0 0+1000000000*vl (g.drop 1):=iD g 0;have j:=iD g 1;rw[List.drop_of_length_le (by omega:g.length<=1+1)]at j;have q:vl ([]:List Int)=0:=rfl;rw[List.drop_zero]at p;have j:vl (g.drop 1)=g.getD 1 0+1000000000*vl []:=j;omega
 show some _=_/\_;rw[aF (n:=g.getD 1 0*1000000000) (by omega) (by omega),aF (n:=g.getD 1 0*1000000000+g.getD 0 0) (by omega) (by omega),m];exact⟨congrArg some (by omega),by omega,by omega⟩
theorem sm(x y:Nat):Nat.gcd y (x%y)=Nat.gcd x y:=by rw[Nat.gcd_comm x y,Nat.gcd_rec y x,Nat.gcd_comm]
theorem xl{n:Nat}{x y:ah}{v w:Int}(hn:20000<=n)(hx:isI x.Negative x.Groups v)(C:isI y.Negative y.Groups w)(lx:x.Groups.length<=250)(ly:y.Groups.length<=250):Ok (fP n x y) fun z=>isI z.Negative z.Groups (gZ v w):=by
 unfold fP;refine Ok.bde (kH (by omega) (by omega) hx) (Ok.bde (kH (by omega) (by omega) C) ?_);have ex:v.natAbs=(vl x.Groups).toNat:=by have:=gT hx;omega
 have ey:w.natAbs=(vl y.Groups).toNat:=by have:=gT C;omega
 have e0:gZ v w=((Nat.gcd (vl x.Groups).toNat (vl y.Groups).toNat:Nat):Int):=by unfold gZ;rw[ex,ey]
 refine Ok.bd (R:=fun o=>Can o.1/\Can o.2/\o.1.length<=250/\o.2.length<=250/\((Nat.gcd (vl o.1).toNat (vl o.2).toNat:Nat):Int)=gZ v w/\(o.2≠[]->o.1.length<=2/\o.2.length<=2)) ?_ ?_
 ·refine dD (fun p:List Int×List Int=>Can p.1/\Can p.2/\p.1.length<=250/\p.2.length<=250/\((Nat.gcd (vl p.1).toNat (vl p.2).toNat:Nat):Int)=gZ v w) (fun p=>gm (vl p.1).toNat (vl p.2).toNat) ?_ n _ ⟨hx.1,C.1,lx,ly,e0.symm⟩ ?_
  ·rintro again ⟨a,b⟩ ⟨ha,hb,I,lb,D⟩ ih;simp only at ha hb I lb D;dsimp only;have J:=ba ha.dig;refine Ok.cd (fun h=>?_) (fun h=>?_)
   ·have j:b≠[]:=by rintro rfl;simp at h
    have a6:=jM hb j;have rest:Ok (bdO (dw n a b) fun U=>again (b,U.2)) fun o=>Can o.1/\Can o.2/\o.1.length<=250/\o.2.length<=250/\((Nat.gcd (vl o.1).toNat (vl o.2).toNat:Nat):Int)=gZ v w/\(o.2≠[]->o.1.length<=2/\o.2.length<=2):=by
     refine Ok.bd (BK (by omega) ha hb j (by omega) (by omega)) ?_;rintro⟨q,r⟩ ⟨q1,r1,r2,r3⟩;simp only at q1 r1 r2 r3;have Y:=ba r1.dig;have er:vl r=vl a%vl b:=by
      have h1:(vl q*vl b+vl r)%vl b=vl r%vl b:=by rw[Int.add_comm,Int.add_mul_emod_self_right]
      rw[<-r3,h1,Int.emod_eq_of_lt Y r2]
     have M:(vl r).toNat=(vl a).toNat%(vl b).toNat:=by
      rw[er,Int.toNat_emod J (by omega)]
     have a0:r.length<=250:=by
      by_cases hl:r.length<=250
      ·exact hl
      ·have:=ck hb.dig r1 (by omega);omega
     exact ih _ ⟨hb,r1,lb,a0,by simp only;rw[M,sm];exact D⟩ (by simp only;rw[M];exact xe (by omega))
    refine Ok.cd (fun h1=>rest) (fun h1=>Ok.cd (fun h2=>rest) (fun h2=>?_));have:=dcF h1;have:=dcF h2;exact aw.2 ⟨ha,hb,I,lb,D,fun _=>⟨(show a.length<=2 by omega),(show b.length<=2 by omega)⟩⟩
   ·have j:b=[]:=by
     cases b with
     |nil=>rfl
     |cons=>exact absurd (dcF h) (by simp)
    exact aw.2 ⟨ha,hb,I,lb,D,fun h=>absurd j h⟩
  ·obtain⟨K,hK⟩:∃K:Nat,K=250:=⟨_,rfl⟩;have h1:=Ai hx.1.dig (k:=K) (by omega);have h2:=Ai C.1.dig (k:=K) (by omega);have N:=Nat.mul_lt_mul'' h1 h2;rw[<-Nat.pow_add]at N;have:=uV N;simp only;omega
 ·rintro⟨a,b⟩ ⟨ha,hb,I,lb,D,hs⟩;simp only at ha hb I lb D hs;dsimp only;have J:=ba ha.dig;refine Ok.cd (fun h=>?_) (fun h=>?_)
  ·have j:b=[]:=by simpa using h
   subst j;refine Ok.bd (dy (by omega) false ha.dig (by omega)) fun y C=>aw.2 ?_
   have e:vl a=gZ v w:=by
    rw[<-D];show vl a=((Nat.gcd (vl a).toNat 0:Nat):Int);rw[Nat.gcd_zero_right];omega
   rw[e]at C;exact C
  ·have j:b≠[]:=by rintro rfl;simp at h
   obtain⟨a1,a2⟩:=hs j;have wa:=Df (n:=n) ha.dig a1;have wb:=Df (n:=n) hb.dig a2;refine Ok.bde wa.1 (Ok.bde wb.1 ?_);refine Ok.bd (R:=fun m=>m=gZ v w/\m<1000000000000000000) ?_ ?_
   ·refine dD (fun p:Int×Int=>0<=p.1/\p.1<1000000000000000000/\0<=p.2/\p.2<1000000000000000000/\((Nat.gcd p.1.toNat p.2.toNat:Nat):Int)=gZ v w) (fun p=>gm p.1.toNat p.2.toNat) ?_ n _ ⟨wa.2.1,wa.2.2,wb.2.1,wb.2.2,D⟩ ?_
    ·rintro T ⟨c,d⟩ ⟨c1,c2,d1,d2,E⟩ a3;simp only at c1 c2 d1 d2 E;dsimp only;refine Ok.cd (fun h=>?_) (fun h=>?_)
     ·have hd:=dcT h;refine Ok.gd (by rw[decide_eq_false (by omega)];rfl) ?_;rw[(pN c1).2];have a4:=Int.emod_nonneg c (by omega:d≠0);have a5:=Int.emod_lt_of_pos c (by omega:0<d);have em:(c%d).toNat=c.toNat%d.toNat:=Int.toNat_emod c1 d1;exact a3 _ ⟨d1,d2,a4,by simp only;omega,by simp only;rw[em,sm];exact E⟩ (by simp only;rw[em];exact xe (by omega))
     ·have hd:=dcF h;have:d=0:=by omega
      subst this;refine aw.2 ⟨?_,c2⟩;rw[<-E];simp[Nat.gcd_zero_right];omega
    ·have:gm (vl a).toNat (vl b).toNat<=120+3:=uV (by
      have h1:(vl a).toNat<2^60:=by omega
      have h2:(vl b).toNat<2^60:=by omega
      have N:(vl a).toNat*(vl b).toNat<2^60*2^60:=Nat.mul_lt_mul'' h1 h2;rw[<-Nat.pow_add]at N;exact N)
     simp only;omega
   ·rintro m ⟨hm,a5⟩;have O:0<=m:=by rw[hm];exact Int.natCast_nonneg _
    rw[(pN O).1,(pN O).2,aF (n:=m / 1000000000) (by omega) (by omega),bf (n:=m / 1000000000) (by omega) (by omega),bf (n:=m%1000000000) (by omega) (by omega)];refine Ok.bd (dy (by omega) false (iX.2 ⟨by omega,fN.2 (by omega)⟩) (by simp)) fun y C=>aw.2 ?_
    have e:vl [m%1000000000,m / 1000000000]=m:=by
     show m%1000000000+1000000000*vl [m / 1000000000]=m;rw[hZ];omega
    simp only[Bool.false_eq_true,if_false]at C;rw[e,hm]at C;exact C
theorem qO{n:Nat}{x y:ah}{v w:Int}(j:1000<=n)(hx:isI x.Negative x.Groups v)(m:isI y.Negative y.Groups w)(p:x.Groups.length<=400)(q:y.Groups.length<=400):fm n x y=some (sgn (v-w)):=by
 apply Ok.eq;unfold fm;refine Ok.bd (En j hx m p q) fun z C=>?_
 have:=Bq hx m C p q;exact Ok.bde (kR j (by omega) C) (aw.2 rfl)
theorem ke{n:Nat}{x y:ah}{k w:Int}(I:1000<=n)(hx:isI x.Negative x.Groups (k*w))(C:isI y.Negative y.Groups w)(hw:w≠0)(lx:x.Groups.length<=250)(ly:y.Groups.length<=250):Ok (cY n x y) fun z=>isI z.1.Negative z.1.Groups k:=by
 unfold cY;refine Ok.bde (kH I (by omega) hx) (Ok.bde (kH I (by omega) C) ?_);have D:y.Groups≠[]:=by
  intro h;have:=C.2.2;rw[h]at this;have e:vl ([]:List Int)=0:=rfl;rw[e]at this;apply hw;rw[this];split<;>rfl
 refine Ok.cd (fun h=>absurd h (by simp[D])) (fun h=>?_);refine Ok.bd (BK I hx.1 C.1 D (by omega) (by omega)) ?_;rintro⟨c,d⟩ ⟨J,d1,d2,d3⟩;simp only at J d1 d2 d3;dsimp only;have hyp:=jM C.1 D;have cp:=ba J.dig;have dp:=ba d1.dig;have ax:=gT hx;have ay:=gT C;have em:vl x.Groups=(k.natAbs:Int)*vl y.Groups:=by rw[ax,ay,Int.natAbs_mul];push_cast;rfl
 have Y:vl c=(k.natAbs:Int)/\vl d=0:=by
  have e:((k.natAbs:Int)-vl c)*vl y.Groups=vl d:=by rw[Int.sub_mul];omega
  have h0:(k.natAbs:Int)-vl c=0:=by
   by_cases h1:(k.natAbs:Int)-vl c=0
   ·exact h1
   ·exfalso;by_cases h2:1<=(k.natAbs:Int)-vl c
    ·have:1*vl y.Groups<=((k.natAbs:Int)-vl c)*vl y.Groups:=mrT h2 (by omega);omega
    ·have:((k.natAbs:Int)-vl c)*vl y.Groups<=(-1)*vl y.Groups:=mrT (by omega) (by omega);omega
  rw[h0]at e;omega
 have lc:c.length<=250:=by
  by_cases hl:c.length<=250
  ·exact hl
  ·have:=ck hx.1.dig J (by omega);have:vl c*1<=vl c*vl y.Groups:=mlT (by omega) cp;omega
 have M:d=[]:=rJ d1 Y.2;subst M;refine Ok.bd (dy I _ J.dig (by omega)) fun z hz=>?_
 have j:isI z.Negative z.Groups k:=by
  have nx:=hx.2.2;have ny:=C.2.2;have:k=(if (x.Negative !=y.Negative)=true then-vl c else vl c):=by
   rw[Y.1];have q:k=0\/0<k\/k<0:=by omega
   cases E:x.Negative<;>cases N:y.Negative<;>rw[E]at nx<;>rw[N]at ny<;>simp only[Bool.false_eq_true,if_false,if_true]at nx ny<;>simp<;>rcases q with q|q|q<;>try omega;all_goals exfalso
   all_goals
    first
    |(have O:=Int.mul_neg_of_neg_of_pos q (by omega:0<w);have:=ba hx.1.dig;omega)
    |(have O:=Int.mul_pos q (by omega:0<w);have T:=jM hx.1 (hx.2.1 E);omega)
    |(have O:=Int.mul_neg_of_pos_of_neg q (by omega:w<0);have:=ba hx.1.dig;omega)
    |(have O:=Int.mul_pos_of_neg_of_neg q (by omega:w<0);have T:=jM hx.1 (hx.2.1 E);omega)
  rw[this];exact hz
 have a0:=gP J.dig;have a1:=iq lc;have lz:=iV j (k:=250) (by omega) (by omega);have tail:∀{β:Type} (f:ah->ah->Option β) {Q:β->Prop},(∀m d,Ok (f m d) Q)->Ok (bdO (bB n z y) fun v20=>bdO (cS n x v20) fun U=>f v20 U) Q:=by
  intro β f Q hf;refine Ok.bd (mA I j C (by omega) (by omega)) fun p hp=>?_
  have lp:p.Groups.length<=250:=by rw[(Gp hp hx).2];exact lx
  exact Ok.bd (En I hx hp (by omega) (by omega)) fun d _=>hf p d
 refine Ok.cd (fun h=>?_) (fun h=>?_)
 ·refine Ok.cd (fun h=>absurd (dcT h) (by simp)) (fun h=>?_);exact tail (fun m d=>some ((z,d,0))) fun m d=>aw.2 j
 ·exact tail (fun m d=>some ((z,d,0))) fun m d=>aw.2 j
end Go.L.R


set_option linter.all false
namespace Go.L.R
open Go Go.Eng Go.L
def Qx(x:aj)(r:Rat)(k:Nat):Prop:=QL x.Num.Negative x.Num.Groups x.Den.Negative x.Den.Groups r k
theorem np{p q:Bool}{g h:List Int}{v:Int}(a:isI p g v)(b:isI q h (-v)){k:Nat}(j:g.length<=k):h.length<=k:=by
 have:=jC a j;exact iV b (by omega) (by omega)
theorem lq{n:Nat}{x y:ah}{p q:Int}{k:Nat}(T:20000<=n)(hk:k<=250)(hx:isI x.Negative x.Groups p)(E:isI y.Negative y.Groups q)(U:x.Groups.length<=k)(Y:y.Groups.length<=k)(J:q≠0):
  Ok (dx n x y) fun z=>Qx z (Rat.divInt p q) k:=by
 unfold dx;have M:=B4 (v:=p) J;refine Ok.bd (xl T hx E (by omega) (by omega)) fun g j=>?_
 have bq:=jC E Y;have bp:=jC hx U;have I:=rW p q;have C:=qG p q;have ap:=lO p _ M I;have aq:=lO q _ M C;have a0:q / gZ p q≠0:=by intro h;rw[h,Int.zero_mul]at C;exact J C
 have gq:gZ p q<=(q.natAbs:Int):=by
  have e:q.natAbs=(q / gZ p q).natAbs*(gZ p q).natAbs:=by rw[<-Int.natAbs_mul,<-C]
  have:1*(gZ p q).natAbs<=(q / gZ p q).natAbs*(gZ p q).natAbs:=Nat.mul_le_mul_right _ (by omega);omega
 have lg:g.Groups.length<=k:=iV j (by omega) (by omega);refine Ok.bde (kR (by omega) (by omega) E) ?_;have hs:=cR q;refine Ok.cd (fun h=>?_) (fun h=>?_)
 ·have N:q<0:=by have:=dcT h;omega
  refine Ok.bd (oE (by omega) (by omega) j) fun g' D=>?_
  have a1:=np j D lg;refine Ok.bd (ke (k:=-(p / gZ p q)) (by omega) (by rw[Int.neg_mul_neg,<-I];exact hx) D (by omega) (by omega) (by omega)) fun a ha=>?_
  refine Ok.bd (ke (k:=-(q / gZ p q)) (by omega) (by rw[Int.neg_mul_neg,<-C];exact E) D (by omega) (by omega) (by omega)) fun b hb=>aw.2 ?_
  have O:gZ (-p) (-q)=gZ p q:=by unfold gZ;rw[Int.natAbs_neg,Int.natAbs_neg]
  have e1:(Rat.divInt p q).num=-(p / gZ p q):=by
   rw[<-uc,oQ (by omega),O];rw[show-p=(-(p / gZ p q))*gZ p q by rw[Int.neg_mul,<-I],Int.mul_ediv_cancel _ (by omega)]
  have e2:((Rat.divInt p q).den:Int)=-(q / gZ p q):=by
   rw[<-uc,oF (by omega),O];rw[show-q=(-(q / gZ p q))*gZ p q by rw[Int.neg_mul,<-C],Int.mul_ediv_cancel _ (by omega)]
  exact⟨by rw[e1];exact ha,by rw[e2];exact hb,iV ha (by omega) (by omega),iV hb (by omega) (by omega)⟩
 ·have m:0<q:=by have:=dcF h;omega
  refine Ok.bd (ke (k:=p / gZ p q) (by omega) (by rw[<-I];exact hx) j (by omega) (by omega) (by omega)) fun a ha=>?_
  refine Ok.bd (ke (k:=q / gZ p q) (by omega) (by rw[<-C];exact E) j (by omega) (by omega) (by omega)) fun b hb=>aw.2 ?_
  exact⟨by rw[oQ m];exact ha,by rw[oF m];exact hb,iV ha (by omega) (by omega),iV hb (by omega) (by omega)⟩
theorem sE{n:Nat}{v:Int}(p:20000<=n)(j:-9223372036854775808<=v)(m:v<=9223372036854775807):Ok (ch n v) fun z=>isI z.Negative z.Groups v:=by
 unfold ch;exact Ok.bd (xI (by omega) j m) fun a ha=>aw.2 ha
theorem p6{n:Nat}{x:aj}{r:Rat}{k:Nat}(m:20000<=n)(z:k<=250)(h:Qx x r k):bM n x=some true:=by
 apply Ok.eq;unfold bM;have hp:=den_pos r;have p:=h.nl;have q:=h.dl;refine Ok.bde (mh (by omega) (by omega) h.num) (Ok.cd (fun h=>by cases h) fun _=>?_);refine Ok.bde (mh (by omega) (by omega) h.den) (Ok.cd (fun h=>by cases h) fun _=>?_);refine Ok.bde (kR (by omega) (by omega) h.den) ?_;rw[qC hp];refine Ok.cd (fun h=>absurd h (by decide)) fun _=>?_
 refine Ok.bd (xl m h.num h.den (by omega) (by omega)) fun g j=>?_
 rw[EZ]at j;refine Ok.bd (sE (by omega) (by decide) (by decide)) fun one h1=>?_
 have l1:=fX h1 (by decide) (by decide);have C:=fX j (by decide) (by decide);exact Ok.bde (qO (by omega) j h1 (by omega) (by omega)) (aw.2 rfl)
theorem fq{n:Nat}{x:aj}{r:Rat}{k:Nat}(j:20000<=n)(m:k<=250)(h:Qx x r k):cx n x=some x:=by
 unfold cx;rw[p6 j m h];rfl
theorem mW{n:Nat}{v:Int}(p:20000<=n)(j:-9223372036854775808<=v)(m:v<=9223372036854775807):Ok (bO n v) fun z=>Qx z (Rat.divInt v 1) 3:=by
 unfold bO;refine Ok.bd (sE (by omega) j m) fun a ha=>Ok.bd (sE (by omega) (by decide) (by decide)) fun b hb=>aw.2 ?_
 obtain⟨e1,e2⟩:=zp v;exact⟨by rw[e1];exact ha,by rw[e2];exact hb,fX ha j m,fX hb (by decide) (by decide)⟩
theorem Cb{n:Nat}{p q:Int}(E:20000<=n)(C:-9223372036854775808<=p)(D:p<=9223372036854775807)(h1:-9223372036854775808<=q)(j:q<=9223372036854775807)(I:q≠0):Ok (gC n p q) fun z=>Qx z.1 (Rat.divInt p q) 3/\z.2=0:=by
 unfold gC jQ;refine Ok.bd (sE (by omega) C D) fun a ha=>Ok.bd (sE (by omega) h1 j) fun b hb=>?_
 have J:=fX ha C D;have lb:=fX hb h1 j;refine Ok.bd (R:=fun z=>Qx z.1 (Rat.divInt p q) 3/\z.2=0) ?_ fun z m=>aw.2 m
 refine Ok.bde (kR (by omega) (by omega) hb) ?_;have hs:=cR q;refine Ok.cd (fun h=>?_) (fun h=>?_)
 ·have:sgn q=0:=by simpa using h
  omega
 ·exact Ok.bd (lq E (by omega) ha hb J lb I) fun z m=>aw.2 ⟨m,rfl⟩
theorem Ax(a b:Rat):Rat.divInt (a.num*b.num) ((a.den:Int)*(b.den:Int))=a*b:=by
 rw[<-Rat.divInt_mul_divInt,Rat.num_divInt_den,Rat.num_divInt_den]
theorem zG(a b:Rat):Rat.divInt (a.num*(b.den:Int)+b.num*(a.den:Int)) ((a.den:Int)*(b.den:Int))=a+b:=by
 have h1:=den_pos a;have h2:=den_pos b;rw[<-Rat.divInt_add_divInt _ _ (by omega) (by omega),Rat.num_divInt_den,Rat.num_divInt_den]
theorem oa{n:Nat}{x y:aj}{a b:Rat}{j k:Nat}(C:20000<=n)(I:j+k<=250)(hx:Qx x a j)(m:Qx y b k):Ok (bu n x y) fun z=>Qx z (a*b) (j+k):=by
 unfold bu;refine Ok.bde (fq C (by omega) hx) (Ok.bde (fq C (by omega) m) ?_);have J:=hx.nl;have M:=m.nl;have d1:=hx.dl;have d2:=m.dl;refine Ok.bd (mA (by omega) hx.num m.num (by omega) (by omega)) fun p hp=>Ok.bd (mA (by omega) hx.den m.den (by omega) (by omega)) fun q D=>?_
 have h1:=den_pos a;have h2:=den_pos b;have N:(0:Int)<(a.den:Int)*(b.den:Int):=Int.mul_pos h1 h2;refine Ok.bd (lq C I hp D (fg hx.num m.num hp J M) (fg hx.den m.den D d1 d2) (by omega)) fun z E=>aw.2 ?_
 rw[Ax]at E;exact E
theorem sQ{n:Nat}{x y:aj}{a b:Rat}{j k:Nat}(D:20000<=n)(J:j+k+1<=250)(hx:Qx x a j)(m:Qx y b k):Ok (bH n x y) fun z=>Qx z (a+b) (j+k+1):=by
 unfold bH;refine Ok.bde (fq D (by omega) hx) (Ok.bde (fq D (by omega) m) ?_);have M:=hx.nl;have N:=m.nl;have d1:=hx.dl;have d2:=m.dl;refine Ok.bd (mA (by omega) hx.num m.den (by omega) (by omega)) fun p hp=>Ok.bd (mA (by omega) m.num hx.den (by omega) (by omega)) fun p' C=>?_
 have T:=fg hx.num m.den hp M d2;have O:=fg m.num hx.den C N d1;refine Ok.bd (Am (by omega) hp C (by omega) (by omega)) fun s hs=>Ok.bd (mA (by omega) hx.den m.den (by omega) (by omega)) fun q E=>?_
 have ls:=wM hp C hs (k:=j+k) (by omega) (by omega);have U:=fg hx.den m.den E d1 d2;have h1:=den_pos a;have h2:=den_pos b;have Y:(0:Int)<(a.den:Int)*(b.den:Int):=Int.mul_pos h1 h2;refine Ok.bd (lq D J hs E (by omega) (by omega) (by omega)) fun z I=>aw.2 ?_
 rw[zG]at I;exact I
theorem Al{n:Nat}{x:aj}{a:Rat}{k:Nat}(m:20000<=n)(p:k<=250)(hx:Qx x a k):Ok (iB n x) fun z=>Qx z (-a) k:=by
 unfold iB;have q:=hx.nl;refine Ok.bde (fq m p hx) (Ok.bd (oE (by omega) (by omega) hx.num) fun z j=>aw.2 ?_);exact⟨(show(-a).num=-a.num from rfl)▸j,(show(-a).den=a.den from rfl)▸hx.den,np hx.num j hx.nl,hx.dl⟩
theorem lk{n:Nat}{x y:aj}{a b:Rat}{j k:Nat}(m:20000<=n)(p:j+k+1<=250)(hx:Qx x a j)(q:Qx y b k):Ok (bh n x y) fun z=>Qx z (a-b) (j+k+1):=by
 unfold bh;refine Ok.bd (Al m (by omega) q) fun v C=>Ok.bd (sQ m p hx C) fun z D=>aw.2 ?_
 rw[Rat.sub_eq_add_neg];exact D
theorem AM{n:Nat}{x:aj}{a:Rat}{k:Nat}(j:20000<=n)(m:k<=250)(hx:Qx x a k):dJ n x=some (sgn a.num):=by
 unfold dJ;have p:=hx.nl;rw[fq j m hx];show bdO (cA n x.Num) _=_;rw[kR (by omega) (by omega) hx.num];rfl
theorem lR{n:Nat}{x y:aj}{a b:Rat}{j k:Nat}(m:20000<=n)(p:j+k+1<=250)(hx:Qx x a j)(q:Qx y b k):aW n x y=some (sgn (a-b).num):=by
 apply Ok.eq;unfold aW;exact Ok.bd (lk m p hx q) fun v z=>Ok.bde (AM m p z) (aw.2 rfl)
end Go.L.R


set_option linter.unusedVariables false
namespace Go.L
open Go Go.Eng
theorem QL.tight{nn dn:Bool}{ng m:List Int}{r:Rat}{j:Nat}(h:QL nn ng dn m r j){p q:Int}{k:Nat}(D:r=Rat.divInt p q)(z:0<q)(h1:-pB k<p)(h2:p<pB k)(E:q<pB k):QL nn ng dn m r k:=by
 subst D;have C:=B4 (v:=p) (w:=q) (by omega);have I:=lO p _ C (rW p q);have J:=lO q _ C (qG p q);have e1:=oQ (p:=p) z;have e2:=oF (p:=p) z;refine⟨h.num,h.den,iV h.num (by rw[e1];omega) (by rw[e1];omega),iV h.den (by rw[e2];have:=gF k;omega) (by rw[e2];omega)⟩
theorem pr(a:Int):Rat.divInt a 1=(a:Rat):=by
 rw[Rat.divInt_eq_div];grind
end Go.L


set_option linter.unusedVariables false
namespace Go.L
open Go Go.Eng
theorem sub_one(v a:Int):Rat.divInt v 1-Rat.divInt a 1=Rat.divInt (v-a) 1:=by
 rw[Rat.divInt_sub_divInt _ _ (by omega) (by omega)];simp
end Go.L


set_option linter.all false
namespace Go.L
open Go Go.Eng
theorem Al{n:Nat}{x:aj}{a:Rat}{k:Nat}(p:20000<=n)(q:k<=250)(hx:Qx x a k):Ok (mj n x) fun z=>Qx z (-a) k:=by
 unfold mj;refine Ok.bd (fq p q hx) fun v j=>?_
 have C:=j.nl;refine Ok.bd (oE (by omega) (by omega) j.num) fun z m=>aw.2 ?_
 exact⟨(show(-a).num=-a.num from rfl)▸m,(show(-a).den=a.den from rfl)▸j.den,np j.num m j.nl,j.dl⟩
theorem lk{n:Nat}{x y:aj}{a b:Rat}{j k:Nat}(m:20000<=n)(p:j+k+1<=250)(hx:Qx x a j)(q:Qx y b k):Ok (eF n x y) fun z=>Qx z (a-b) (j+k+1):=by
 unfold eF;refine Ok.bd (Al m (by omega) q) fun v C=>Ok.bd (sQ m p hx C) fun z D=>aw.2 ?_
 rw[Rat.sub_eq_add_neg];exact D
end Go.L

