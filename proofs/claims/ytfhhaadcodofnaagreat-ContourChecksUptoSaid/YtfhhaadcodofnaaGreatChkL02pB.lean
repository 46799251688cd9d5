import Derived.Test.YtfhhaadcodofnaaGreatChkL01h
import Derived.Test.YtfhhaadcodofnaaGreatPl6Chks
set_option linter.all false
namespace Go.L
open Go Go.Eng
theorem oI{g:List Int}(h:Dig g)(j:g.length<=2):sr g.reverse=vl g/\0<=vl g/\vl g<1000000000000000000:=by
 match g,j with
 |[],_=>exact⟨rfl,by decide,by decide⟩
 |[d],_=>
  have m:=gI.1 h;have e:vl [d]=d:=iP d;rw[e];refine⟨?_,by omega,by omega⟩;simp only[sr,List.reverse_cons,List.reverse_nil,List.nil_append,List.foldl,IntKind.wrap_u64];omega
 |[d,e],_=>
  have h1:=jm.1 h;have h2:=gI.1 h1.2;have e1:vl [d,e]=d+1000000000*e:=by show d+1000000000*vl [e]=_;rw[iP]
  rw[e1];refine⟨?_,by omega,by omega⟩;simp only[sr,List.reverse_cons,List.reverse_nil,List.nil_append,List.cons_append,List.foldl,IntKind.wrap_u64];omega
theorem qH{n:Nat}{g:List Int}(h:Dig g)(m:g.length<=900):∃r,jc n g=some r/\(r.2=true->g.length<=2/\r.1=vl g)/\(r.2=false->2<g.length):=by
 unfold jc;rw[decide_eq_true (by omega:g.length<=1099511627776)];refine⟨_,rfl,?_⟩;by_cases j:g.length>2
 ·rw[decide_eq_true j];exact⟨fun h=>(by cases h),fun _=>j⟩
 ·rw[decide_eq_false j];exact⟨fun _=>⟨by omega,(oI h (by omega)).1⟩,fun h=>(by cases h)⟩
theorem Dn{n:Nat}{a b:List Int}(E:1000<=n)(ha:Can a)(hb:Can b)(C:b≠[])(la:a.length<=300)(lb:b.length<=300):Ok (iX n a b) fun r=>Can r.1/\Can r.2/\vl r.2<vl b/\vl r.1*vl b+vl r.2=vl a:=by
 unfold iX;have J:=km hb C;have j:=bn ha.dig;rw[oL ha hb (by omega) (by omega)];show Ok (cdO _ _ _) _;refine Ok.cd (fun h=>?_) (fun h=>?_)
 ·have N:vl a<vl b:=by
   have:=dcT h;rcases di (vl a-vl b)with⟨g1,g2⟩|⟨g1,g2⟩|⟨g1,g2⟩<;>omega
  exact aw.2 ⟨trivial,ha,N,by show 0*vl b+vl a=vl a;omega⟩
 ·have hle:vl b<=vl a:=by
   have:=dcF h;rcases di (vl a-vl b)with⟨g1,g2⟩|⟨g1,g2⟩|⟨g1,g2⟩<;>omega
  obtain⟨ra,ea,a1,a2⟩:=qH (n:=n) ha.dig (by omega);obtain⟨rb,eb,b1,b2⟩:=qH (n:=n) hb.dig (by omega);have b3:0<b.length:=List.length_pos_iff.2 C;have rest:Ok (cdO (((b.length:Int):Int)==1) (gdO (inR 0 b.length) (bdO (gk n a (gt b 0)) fun v17=>bdO (dm n (ae .u64 v17.2)) fun O=>some ((v17.1,O)))) (bdO (jF n a b) fun v21=>some ((v21.1,v21.2))))
    fun r=>Can r.1/\Can r.2/\vl r.2<vl b/\vl r.1*vl b+vl r.2=vl a:=by
   refine Ok.cd (fun h=>?_) (fun h=>?_)
   ·have hl:b.length=1:=by simp at h;omega
    obtain⟨d,rfl⟩:∃d,b=[d]:=by
     match b,hl with
     |[d],_=>exact⟨d,rfl⟩
    have hd:=gI.1 hb.dig;have b4:d≠0:=hb.2.1 rfl;refine Ok.gd rfl ?_;have e:gt [d] 0=d:=rfl;rw[e];refine Ok.bd (oY ha.dig (by omega) (by omega) (by omega)) ?_;rintro⟨q,r⟩ ⟨I,m,T⟩;simp only at I m T;dsimp only;rw[aI m.1 (by omega)];refine Ok.bd (mq E m.1 (by omega)) ?_;rintro z ⟨z1,z2,z3⟩;refine aw.2 ⟨I,z1,?_,?_⟩
    ·simp only[z2,iP];exact m.2
    ·simp only[z2,iP];exact T
   ·have hl:b.length≠1:=by simp at h;omega
    exact Ok.bd (G9 E ha hb (by omega) la lb hle) fun r hr=>aw.2 hr
  refine Ok.bde ea (Ok.bde eb ?_);refine Ok.cd (fun h=>?_) (fun h=>rest);refine Ok.cd (fun h'=>?_) (fun h'=>rest);obtain⟨U,Y⟩:=a1 h;obtain⟨a6,a7⟩:=b1 h';have wa:=oI ha.dig U;have wb:=oI hb.dig a6;rw[Y,a7];refine Ok.gd (by rw[decide_eq_false (by omega)];rfl) ?_;rw[(pU j).1,(pU j).2];have hm:=Int.emod_add_mul_ediv (vl a) (vl b);have a8:=Int.emod_nonneg (vl a) (by omega:vl b≠0);have b0:=Int.emod_lt_of_pos (vl a) J;have D:0<=vl a / vl b:=Int.ediv_nonneg j (by omega);have b5:vl a / vl b<=vl a:=Int.ediv_le_self _ j;rw[aI D (by omega)];refine Ok.bd (mq E D (by omega)) ?_;rintro q ⟨I,m,T⟩;refine Ok.bd (mq E a8 (by omega)) ?_;rintro r ⟨r1,r2,r3⟩;refine aw.2 ⟨I,r1,?_,?_⟩
  ·simp only[r2];exact b0
  ·simp only[m,r2];rw[Int.mul_comm];omega
theorem sL(x y:Nat):Nat.gcd y (x%y)=Nat.gcd x y:=by rw[Nat.gcd_comm x y,Nat.gcd_rec y x,Nat.gcd_comm]
theorem x5{n:Nat}{s:List Int}(h:s.length<=900):cL n s=some s:=by
 unfold cL;rw[decide_eq_true (by omega:(0+s.length)*4<=140737488355328),decide_eq_true (by omega:0+s.length<=4611686018427387904)];rfl
theorem uu{n:Nat}{x y:ai}{v w:Int}(hn:20000<=n)(hx:isI x.Negative x.Groups v)(j:isI y.Negative y.Groups w)(lx:x.Groups.length<=250)(ly:y.Groups.length<=250):Ok (iY n x y) fun z=>isI z.Negative z.Groups (gZ v w):=by
 unfold iY;refine Ok.bde (ka (by omega) (by omega) hx) (Ok.bde (ka (by omega) (by omega) j) ?_);have ex:v.natAbs=(vl x.Groups).toNat:=by have:=iI hx;omega
 have ey:w.natAbs=(vl y.Groups).toNat:=by have:=iI j;omega
 have e0:gZ v w=((Nat.gcd (vl x.Groups).toNat (vl y.Groups).toNat:Nat):Int):=by unfold gZ;rw[ex,ey]
 refine Ok.bd (R:=fun o=>match o with|.inl a=>Can a/\a.length<=250/\vl a=gZ v w|.inr z=>isI z.Negative z.Groups (gZ v w)) ?_ ?_
 ·refine eE (fun p:List Int×List Int=>Can p.1/\Can p.2/\p.1.length<=250/\p.2.length<=250/\((Nat.gcd (vl p.1).toNat (vl p.2).toNat:Nat):Int)=gZ v w) (fun p=>gm (vl p.1).toNat (vl p.2).toNat) ?_ n _ ⟨hx.1,j.1,lx,ly,e0.symm⟩ ?_
  ·rintro again ⟨a,b⟩ ⟨ha,hb,la,lb,J⟩ ih;simp only at ha hb la lb J;dsimp only;have O:=bn ha.dig;refine Ok.cd (fun h=>?_) (fun h=>?_)
   ·have C:b≠[]:=by rintro rfl;simp at h
    have b7:=km hb C;obtain⟨ra,ea,a1,a2⟩:=qH (n:=n) ha.dig (by omega);obtain⟨rb,eb,b1,b2⟩:=qH (n:=n) hb.dig (by omega);have rest:Ok (bdO (iX n a b) fun T=>again (b,T.2)) fun o=>match o with|.inl a=>Can a/\a.length<=250/\vl a=gZ v w|.inr z=>isI z.Negative z.Groups (gZ v w):=by
     refine Ok.bd (Dn (by omega) ha hb C (by omega) (by omega)) ?_;rintro⟨q,r⟩ ⟨q1,r1,r2,r3⟩;simp only at q1 r1 r2 r3;have U:=bn r1.dig;have er:vl r=vl a%vl b:=by
      have h1:(vl q*vl b+vl r)%vl b=vl r%vl b:=by rw[Int.add_comm,Int.add_mul_emod_self_right]
      rw[<-r3,h1,Int.emod_eq_of_lt U r2]
     have I:(vl r).toNat=(vl a).toNat%(vl b).toNat:=by
      rw[er,Int.toNat_emod O (by omega)]
     have Y:r.length<=250:=by
      by_cases hl:r.length<=250
      ·exact hl
      ·have:=cS hb.dig r1 (by omega);omega
     exact ih _ ⟨hb,r1,lb,Y,by simp only;rw[I,sL];exact J⟩ (by simp only;rw[I];exact xx (by omega))
    refine Ok.bde ea (Ok.bde eb ?_);refine Ok.cd (fun h1=>?_) (fun h1=>rest);refine Ok.cd (fun h2=>?_) (fun h2=>rest);obtain⟨a6,a7⟩:=a1 h1;obtain⟨a8,b0⟩:=b1 h2;have wa:=oI ha.dig a6;have wb:=oI hb.dig a8;rw[a7,b0];refine Ok.bd (R:=fun m=>m=gZ v w/\m<1000000000000000000) ?_ ?_
    ·refine eE (fun p:Int×Int=>0<=p.1/\p.1<1000000000000000000/\0<=p.2/\p.2<1000000000000000000/\((Nat.gcd p.1.toNat p.2.toNat:Nat):Int)=gZ v w) (fun p=>gm p.1.toNat p.2.toNat) ?_ n _ ⟨wa.2.1,wa.2.2,wb.2.1,wb.2.2,J⟩ ?_
     ·rintro N ⟨c,d⟩ ⟨c1,c2,d1,d2,D⟩ b3;simp only at c1 c2 d1 d2 D;dsimp only;refine Ok.cd (fun h=>?_) (fun h=>?_)
      ·have hd:=dcT h;refine Ok.gd (by rw[decide_eq_false (by omega)];rfl) ?_;rw[(pU c1).2];have b4:=Int.emod_nonneg c (by omega:d≠0);have b5:=Int.emod_lt_of_pos c (by omega:0<d);have em:(c%d).toNat=c.toNat%d.toNat:=Int.toNat_emod c1 d1;exact b3 _ ⟨d1,d2,b4,by simp only;omega,by simp only;rw[em,sL];exact D⟩ (by simp only;rw[em];exact xx (by omega))
      ·have hd:=dcF h;have:d=0:=by omega
       subst this;refine aw.2 ⟨?_,c2⟩;rw[<-D];simp[Nat.gcd_zero_right];omega
     ·have:gm (vl a).toNat (vl b).toNat<=120+3:=u9 (by
       have h1:(vl a).toNat<2^60:=by omega
       have h2:(vl b).toNat<2^60:=by omega
       have E:(vl a).toNat*(vl b).toNat<2^60*2^60:=Nat.mul_lt_mul'' h1 h2;rw[<-Nat.pow_add]at E;exact E)
      simp only;omega
    ·rintro m ⟨hm,b5⟩;have b6:0<=m:=by rw[hm];exact Int.natCast_nonneg _
     refine Ok.bd (mq (by omega) b6 (by omega)) ?_;rintro z ⟨z1,z2,z3⟩;refine Ok.bd (eM (by omega) false z1.dig (by omega)) fun y j=>aw.2 ?_
     rw[z2,hm]at j;exact j
   ·have C:b=[]:=by
     cases b with
     |nil=>rfl
     |cons=>exact absurd (dcF h) (by simp)
    subst C;refine aw.2 ⟨ha,la,?_⟩;rw[<-J];show vl a=((Nat.gcd (vl a).toNat 0:Nat):Int);rw[Nat.gcd_zero_right];omega
  ·obtain⟨K,hK⟩:∃K:Nat,K=250:=⟨_,rfl⟩;have h1:=An hx.1.dig (k:=K) (by omega);have h2:=An j.1.dig (k:=K) (by omega);have E:=Nat.mul_lt_mul'' h1 h2;rw[<-Nat.pow_add]at E;have:=u9 E;simp only;omega
 ·rintro(a|z) h
  ·obtain⟨h1,h2,E⟩:=h;refine Ok.bde (x5 (by omega)) ?_;refine Ok.bd (eM (by omega) false h1.dig (by omega)) fun y j=>aw.2 ?_
   rw[E]at j;exact j
  ·exact aw.2 h
end Go.L


set_option linter.all false
namespace Go.L
open Go Go.Eng
theorem pJ{n:Nat}{x:ai}{v:Int}(m:1000<=n)(j:x.Groups.length<=900)(h:isI x.Negative x.Groups v):Ok (fj n x) fun z=>isI z.Negative z.Groups (-v):=by
 unfold fj;refine Ok.bde (ka m j h) (Ok.bde (x5 j) ?_);refine Ok.bd (eM m _ h.1.dig j) fun z q=>aw.2 ?_
 have:-v=if (!x.Negative)=true then-vl x.Groups else vl x.Groups:=by rw[h.2.2];cases x.Negative<;>simp
 rw[this];exact q
theorem F0{n:Nat}(a b:Int):jR n a b=some (sgn (a-b)):=by
 unfold jR;have j:(a !=a)=false:=by simp
 have m:(b !=b)=false:=by simp
 simp only[cmp_isNaN_int,bdO,j,m];rcases di (a-b)with⟨h1,h2⟩|⟨h1,h2⟩|⟨h1,h2⟩
 ·rw[h2];rw[decide_eq_true (by omega:a<b)];rfl
 ·rw[h2];rw[decide_eq_false (by omega:¬a<b),decide_eq_false (by omega:¬a>b)];rfl
 ·rw[h2];rw[decide_eq_false (by omega:¬a<b),decide_eq_true (by omega:a>b)];rfl
theorem lR{n:Nat}{x y:ai}{v w:Int}(j:1000<=n)(hx:isI x.Negative x.Groups v)(m:isI y.Negative y.Groups w)(z:x.Groups.length<=400)(C:y.Groups.length<=400):fL n x y=some (sgn (v-w)):=by
 apply Ok.eq;unfold fL;refine Ok.bde (kW j (by omega) hx) (Ok.bde (kW j (by omega) m) ?_);have N:=di v;have hw:=di w;have D:=di (v-w);refine Ok.cd (fun h=>?_) (fun h=>?_)
 ·have E:sgn v≠sgn w:=by simpa using h
  refine Ok.bde (F0 _ _) (aw.2 ?_);have I:=di (sgn v-sgn w);omega
 ·have heq:sgn v=sgn w:=by simpa using h
  refine Ok.bde (ka j (by omega) hx) (Ok.bde (ka j (by omega) m) (Ok.bde (oL hx.1 m.1 z C) ?_));have O:=iI hx;have T:=iI m;have I:=di (vl x.Groups-vl y.Groups);have q:=hx.2.2;have U:=bn hx.1.dig;refine Ok.cd (fun h=>?_) (fun h=>?_)
  ·rw[h,if_pos rfl]at q;have J:=km hx.1 (hx.2.1 h);refine aw.2 ?_;rw[wrap64_in (by omega) (by omega)];omega
  ·rw[h]at q;simp only[Bool.false_eq_true,if_false]at q;exact aw.2 (by omega)
theorem Eh{n:Nat}{x y:ai}{v w:Int}(m:1000<=n)(hx:isI x.Negative x.Groups v)(D:isI y.Negative y.Groups w)(hw:w≠0)(lx:x.Groups.length<=300)(ly:y.Groups.length<=300):
  Ok (dW n x y) fun z=>∃q r,isI z.1.Negative z.1.Groups q/\isI z.2.1.Negative z.2.1.Groups r/\v=q*w+r/\((0<=r/\r<w)\/(w<r/\r<=0))/\z.2.2=0:=by
 unfold dW;refine Ok.bde (ka m (by omega) hx) (Ok.bde (ka m (by omega) D) ?_);have I:y.Groups≠[]:=by
  intro h;have:=D.2.2;rw[h]at this;have e:vl ([]:List Int)=0:=rfl;rw[e]at this;apply hw;rw[this];split<;>rfl
 refine Ok.cd (fun h=>absurd h (by simp[I])) (fun h=>?_);refine Ok.bd (Dn m hx.1 D.1 I lx ly) ?_;rintro⟨c,d⟩ ⟨c1,d1,d2,d3⟩;simp only at c1 d1 d2 d3;dsimp only;have hyp:=km D.1 I;have cp:=bn c1.dig;have dp:=bn d1.dig;have xp:=bn hx.1.dig;have ld:d.length<=300:=by
  by_cases J:d.length<=300
  ·exact J
  ·have:=cS D.1.dig d1 (by omega);omega
 have lc:c.length<=300:=by
  by_cases J:c.length<=300
  ·exact J
  ·have:=cS hx.1.dig c1 (by omega);have:vl c*1<=vl c*vl y.Groups:=mlT (by omega) cp;omega
 refine Ok.bde (x5 (by omega)) ?_;have U:=hx.2.2;have O:=D.2.2;refine Ok.cd (fun h=>?_) (fun h=>?_)
 ·have N:d≠[]:=by rintro rfl;simp at h
  have a7:=km d1 N;refine Ok.cd (fun h=>?_) (fun h=>?_)
  ·refine Ok.bd (Ay m c1.dig (gI.2 (by omega)) (by omega) (by simp)) ?_;rintro c2 ⟨e1,e2⟩;rw[iP]at e2;have Y:d.length<=y.Groups.length:=by
    by_cases J:d.length<=y.Groups.length
    ·exact J
    ·have:=cS D.1.dig d1 (by omega);omega
   refine Ok.bd (qC m D.1.dig d1.dig (by omega) Y (by omega)) ?_;rintro d4 ⟨f1,f2⟩;have a1:c2.length<=900:=by
    by_cases J:c2.length<=301
    ·omega
    ·have h1:=cS (lN.2 ⟨c1.dig,gI.2 (by omega:(0:Int)<=1/\(1:Int)<1000000000)⟩) e1 (by simp;omega);rw[mR,iP]at h1;have:=iO c.length;omega
   have a6:d4.length<=900:=by
    by_cases J:d4.length<=300
    ·omega
    ·have:=cS D.1.dig f1 (by omega);omega
   refine Ok.bd (eM m true e1.dig a1) fun z T=>Ok.bd (eM m y.Negative f1.dig a6) fun z' C=>aw.2 ⟨_,_,T,C,?_,?_,rfl⟩
   ·rw[U,O,e2,f2,<-d3];cases E:x.Negative<;>cases j:y.Negative<;>simp[E,j]at h ⊢<;>grind
   ·rw[O,f2];cases j:y.Negative<;>simp<;>omega
  ·refine Ok.bd (eM m false c1.dig (by omega)) fun z T=>Ok.bd (eM m y.Negative d1.dig (by omega)) fun z' C=>aw.2 ⟨_,_,T,C,?_,?_,rfl⟩
   ·rw[U,O,<-d3];cases E:x.Negative<;>cases j:y.Negative<;>simp[E,j]at h ⊢<;>grind
   ·rw[O];cases j:y.Negative<;>simp<;>omega
 ·have N:d=[]:=by
   cases d with
   |nil=>rfl
   |cons=>exact absurd (dcF h) (by simp)
  subst N;have e0:vl ([]:List Int)=0:=rfl;refine Ok.bd (eM m _ c1.dig (by omega)) fun z T=>Ok.bd (eM m y.Negative oA (by simp)) fun z' C=>aw.2 ⟨_,_,T,C,?_,?_,rfl⟩
  ·rw[U,O,<-d3];rw[e0];cases E:x.Negative<;>cases j:y.Negative<;>simp<;>grind
  ·rw[O];rw[e0];cases j:y.Negative<;>simp<;>omega
theorem kF{n:Nat}{x y:ai}{k w:Int}(m:1000<=n)(hx:isI x.Negative x.Groups (k*w))(C:isI y.Negative y.Groups w)(hw:w≠0)(D:x.Groups.length<=300)(E:y.Groups.length<=300):Ok (dW n x y) fun z=>isI z.1.Negative z.1.Groups k:=by
 refine(Eh m hx C hw D E).mono ?_;rintro z ⟨q,r,h1,h2,I,J,N⟩;have e:(k-q)*w=r:=by grind
 have:k-q=0:=by
  by_cases h:k-q=0
  ·exact h
  ·exfalso;by_cases hp:0<w
   ·by_cases j:1<=k-q
    ·have:1*w<=(k-q)*w:=mrT j (by omega);omega
    ·have:(k-q)*w<=(-1)*w:=mrT (by omega) (by omega);omega
   ·by_cases j:1<=k-q
    ·have:1*(-w)<=(k-q)*(-w):=mrT j (by omega);have e2:(k-q)*(-w)=-r:=by rw[Int.mul_neg,e]
     omega
    ·have:(k-q)*(-w)<=(-1)*(-w):=mrT (by omega) (by omega);have e2:(k-q)*(-w)=-r:=by rw[Int.mul_neg,e]
     omega
 rw[(by omega:k=q)];exact h1
end Go.L


set_option linter.all false
namespace Go.L
open Go Go.Eng
def Qx(x:ar)(r:Rat)(k:Nat):Prop:=QL x.Num.Negative x.Num.Groups x.Den.Negative x.Den.Groups r k
theorem DB{n:Nat}{x y:ai}{p q:Int}{k:Nat}(T:20000<=n)(hk:k<=250)(hx:isI x.Negative x.Groups p)(C:isI y.Negative y.Groups q)(U:x.Groups.length<=k)(Y:y.Groups.length<=k)(I:0<q):
  Ok (bdO (iY n x y) fun m=>bdO (dW n x m) fun D=>bdO (dW n y m) fun E=>some (ar.mk D.1 E.1)) fun z=>Qx z (Rat.divInt p q) k:=by
 have J:=CX (v:=p) (by omega:q≠0);refine Ok.bd (uu T hx C (by omega) (by omega)) fun g j=>?_
 have bq:=iR C Y;have bp:=iR hx U;have N:=si p q;have O:=qI p q;have ap:=mb p _ J N;have aq:=mb q _ J O;have lg:g.Groups.length<=k:=iH j (by omega) (by
  have:1*gZ p q<=(q / gZ p q)*gZ p q:=mrT (by
   by_cases h:1<=q / gZ p q
   ·exact h
   ·have:(q / gZ p q)*gZ p q<=0*gZ p q:=mrT (by omega) (by omega);omega) (by omega)
  omega)
 refine Ok.bd (kF (k:=p / gZ p q) (by omega) (by rw[<-N];exact hx) j (by omega) (by omega) (by omega)) fun a ha=>?_
 refine Ok.bd (kF (k:=q / gZ p q) (by omega) (by rw[<-O];exact C) j (by omega) (by omega) (by omega)) fun b hb=>aw.2 ?_
 exact⟨by rw[rk I];exact ha,by rw[qO I];exact hb,iH ha (by omega) (by omega),iH hb (by omega) (by omega)⟩
theorem om{p q:Bool}{g h:List Int}{v:Int}(a:isI p g v)(b:isI q h (-v)){k:Nat}(hk:g.length<=k):h.length<=k:=by
 have:=iR a hk;exact iH b (by omega) (by omega)
theorem re{n:Nat}{x y:ai}{p q:Int}{k:Nat}(D:20000<=n)(hk:k<=250)(hx:isI x.Negative x.Groups p)(C:isI y.Negative y.Groups q)(E:x.Groups.length<=k)(I:y.Groups.length<=k)(J:q≠0):
  Ok (fk n x y) fun z=>Qx z (Rat.divInt p q) k:=by
 unfold fk;refine Ok.bde (kW (by omega) (by omega) C) ?_;have hs:=di q;refine Ok.cd (fun h=>?_) (fun h=>?_)
 ·have:=dcT h;refine Ok.bd (pJ (by omega) (by omega) hx) fun N j=>Ok.bd (pJ (by omega) (by omega) C) fun O m=>?_
  rw[<-uc];exact DB D hk j m (om hx j E) (om C m I) (by omega)
 ·have:=dcF h;exact DB D hk hx C E I (by omega)
theorem mY{n:Nat}{x:ar}{r:Rat}{k:Nat}(m:20000<=n)(hk:k<=250)(h:Qx x r k):cD n x=some true:=by
 apply Ok.eq;unfold cD;have hp:=den_pos r;have q:=h.nl;have z:=h.dl;refine Ok.bde (mi (by omega) (by omega) h.num) (Ok.cd (fun h=>by cases h) fun _=>?_);refine Ok.bde (mi (by omega) (by omega) h.den) (Ok.cd (fun h=>by cases h) fun _=>?_);refine Ok.bde (kW (by omega) (by omega) h.den) ?_;rw[rj hp];refine Ok.cd (fun h=>absurd h (by decide)) fun _=>?_
 refine Ok.bd (uu m h.num h.den (by omega) (by omega)) fun g j=>?_
 rw[E6]at j;refine Ok.bd (zZ (by omega) (by decide) (by decide)) fun one h1=>?_
 have l1:=jg h1 (by decide) (by decide);have C:=jg j (by decide) (by decide);refine Ok.bde (lR (by omega) j h1 (by omega) (by omega)) (aw.2 rfl)
theorem Es{n:Nat}{x:ar}{r:Rat}{k:Nat}(C:20000<=n)(hk:k<=250)(h:Qx x r k):Ok (jT n x) fun z=>Qx z r k:=by
 unfold jT;have j:=h.nl;have m:=h.dl;refine Ok.bd (pJ (by omega) (by omega) h.num) fun a ha=>?_
 have q:=om h.num ha h.nl;refine Ok.bd (pJ (by omega) (by omega) ha) fun b hb=>?_
 have lb:=om ha hb q;refine Ok.bd (pJ (by omega) (by omega) h.den) fun c hc=>?_
 have lc:=om h.den hc h.dl;refine Ok.bd (pJ (by omega) (by omega) hc) fun d hd=>aw.2 ?_
 have ld:=om hc hd lc;rw[Int.neg_neg]at hb hd;exact⟨hb,hd,lb,ld⟩
theorem lf{n:Nat}{x:ar}{r:Rat}{k:Nat}(j:20000<=n)(hk:k<=250)(h:Qx x r k):Ok (cB n x) fun z=>Qx z r k:=by
 unfold cB;refine Ok.bde (mY j hk h) (Ok.cd (fun _=>Ok.bd (Es j hk h) fun z m=>aw.2 m) fun h=>by cases h)
theorem Hu{n:Nat}{x y:ai}{p q:Int}{k:Nat}(m:20000<=n)(hk:k<=250)(hx:isI x.Negative x.Groups p)(j:isI y.Negative y.Groups q)(C:x.Groups.length<=k)(D:y.Groups.length<=k)(E:q≠0):
  Ok (mS n x y) fun z=>Qx z.1 (Rat.divInt p q) k/\z.2=0:=by
 unfold mS fY;refine Ok.bde (b:=x) (by rw[mi (by omega) (by omega) hx];rfl) (Ok.bde (b:=y) (by rw[mi (by omega) (by omega) j];rfl) ?_);refine Ok.bde (kW (by omega) (by omega) j) ?_;have hs:=di q;refine Ok.cd (fun h=>?_) (fun h=>?_)
 ·have:sgn q=0:=by simpa using h
  omega
 ·exact Ok.bd (re m hk hx j C D E) fun z I=>aw.2 ⟨I,rfl⟩
theorem C7{n:Nat}{p q:Int}(D:20000<=n)(m:-9223372036854775808<=p)(C:p<=9223372036854775807)(h1:-9223372036854775808<=q)(j:q<=9223372036854775807)(E:q≠0):Ok (me n p q) fun z=>Qx z.1 (Rat.divInt p q) 3/\z.2=0:=by
 unfold me;refine Ok.bd (zZ (by omega) m C) fun a ha=>Ok.bd (zZ (by omega) h1 j) fun b hb=>?_
 exact Ok.bd (Hu D (k:=3) (by omega) ha hb (jg ha m C) (jg hb h1 j) E) fun z I=>aw.2 I
end Go.L

