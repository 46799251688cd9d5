import Derived.Test.YtglimpjlhfjgdaaGreatGrdL01h
import Derived.Test.YtglimpjlhfjgdaaGreatPl6Grds
set_option linter.all false
namespace Go.L
open Go Go.Eng
theorem oc{g:List Int}(h:Dig g)(j:g.length<=2):rp g.reverse=vl g/\0<=vl g/\vl g<1000000000000000000:=by
 match g,j with
 |[],_=>exact⟨rfl,by decide,by decide⟩
 |[d],_=>
  have m:=fV.1 h;have e:vl [d]=d:=gY d;rw[e];refine⟨?_,by omega,by omega⟩;simp only[rp,List.reverse_cons,List.reverse_nil,List.nil_append,List.foldl,IntKind.wrap_u64];omega
 |[d,e],_=>
  have h1:=iQ.1 h;have h2:=fV.1 h1.2;have e1:vl [d,e]=d+1000000000*e:=by show d+1000000000*vl [e]=_;rw[gY]
  rw[e1];refine⟨?_,by omega,by omega⟩;simp only[rp,List.reverse_cons,List.reverse_nil,List.nil_append,List.cons_append,List.foldl,IntKind.wrap_u64];omega
theorem qA{n:Nat}{g:List Int}(h:Dig g)(m:g.length<=900):∃r,ie n g=some r/\(r.2=true->g.length<=2/\r.1=vl g)/\(r.2=false->2<g.length):=by
 unfold ie;rw[decide_eq_true (by omega:g.length<=1099511627776)];refine⟨_,rfl,?_⟩;by_cases j:g.length>2
 ·rw[decide_eq_true j];exact⟨fun h=>(by cases h),fun _=>j⟩
 ·rw[decide_eq_false j];exact⟨fun _=>⟨by omega,(oc h (by omega)).1⟩,fun h=>(by cases h)⟩
theorem BL{n:Nat}{a b:List Int}(I:1000<=n)(m:Can a)(p:Can b)(D:b≠[])(la:a.length<=300)(lb:b.length<=300):Ok (iq n a b) fun r=>Can r.1/\Can r.2/\vl r.2<vl b/\vl r.1*vl b+vl r.2=vl a:=by
 unfold iq;have M:=jL p D;have j:=aZ m.dig;rw[ml m p (by omega) (by omega)];show Ok (cdO _ _ _) _;refine Ok.cd (fun h=>?_) (fun h=>?_)
 ·have N:vl a<vl b:=by
   have:=dcT h;rcases cM (vl a-vl b)with⟨g1,g2⟩|⟨g1,g2⟩|⟨g1,g2⟩<;>omega
  exact ar.2 ⟨trivial,m,N,by show 0*vl b+vl a=vl a;omega⟩
 ·have hle:vl b<=vl a:=by
   have:=dcF h;rcases cM (vl a-vl b)with⟨g1,g2⟩|⟨g1,g2⟩|⟨g1,g2⟩<;>omega
  obtain⟨ra,ea,a1,a2⟩:=qA (n:=n) m.dig (by omega);obtain⟨rb,eb,b1,b2⟩:=qA (n:=n) p.dig (by omega);have a8:0<b.length:=List.length_pos_iff.2 D;have rest:Ok (cdO (((b.length:Int):Int)==1) (gdO (inR 0 b.length) (bdO (fH n a (gt b 0)) fun v17=>bdO (dc n (aa .u64 v17.2)) fun O=>some ((v17.1,O)))) (bdO (jg n a b) fun v21=>some ((v21.1,v21.2))))
    fun r=>Can r.1/\Can r.2/\vl r.2<vl b/\vl r.1*vl b+vl r.2=vl a:=by
   refine Ok.cd (fun h=>?_) (fun h=>?_)
   ·have hl:b.length=1:=by simp at h;omega
    obtain⟨d,rfl⟩:∃d,b=[d]:=by
     match b,hl with
     |[d],_=>exact⟨d,rfl⟩
    have hd:=fV.1 p.dig;have b0:d≠0:=p.2.1 rfl;refine Ok.gd rfl ?_;have e:gt [d] 0=d:=rfl;rw[e];refine Ok.bd (nY m.dig (by omega) (by omega) (by omega)) ?_;rintro⟨q,r⟩ ⟨J,C,S⟩;simp only at J C S;dsimp only;rw[aE C.1 (by omega)];refine Ok.bd (lH I C.1 (by omega)) ?_;rintro z ⟨z1,z2,z3⟩;refine ar.2 ⟨J,z1,?_,?_⟩
    ·simp only[z2,gY];exact C.2
    ·simp only[z2,gY];exact S
   ·have hl:b.length≠1:=by simp at h;omega
    exact Ok.bd (Ek I m p (by omega) la lb hle) fun r hr=>ar.2 hr
  refine Ok.bde ea (Ok.bde eb ?_);refine Ok.cd (fun h=>?_) (fun h=>rest);refine Ok.cd (fun h'=>?_) (fun h'=>rest);obtain⟨T,U⟩:=a1 h;obtain⟨Y,Z⟩:=b1 h';have wa:=oc m.dig T;have wb:=oc p.dig Y;rw[U,Z];refine Ok.gd (by rw[decide_eq_false (by omega)];rfl) ?_;rw[(pd j).1,(pd j).2];have hm:=Int.emod_add_mul_ediv (vl a) (vl b);have a6:=Int.emod_nonneg (vl a) (by omega:vl b≠0);have a7:=Int.emod_lt_of_pos (vl a) M;have E:0<=vl a / vl b:=Int.ediv_nonneg j (by omega);have b3:vl a / vl b<=vl a:=Int.ediv_le_self _ j;rw[aE E (by omega)];refine Ok.bd (lH I E (by omega)) ?_;rintro q ⟨J,C,S⟩;refine Ok.bd (lH I a6 (by omega)) ?_;rintro r ⟨r1,r2,r3⟩;refine ar.2 ⟨J,r1,?_,?_⟩
  ·simp only[r2];exact a7
  ·simp only[C,r2];rw[Int.mul_comm];omega
theorem qT(x y:Nat):Nat.gcd y (x%y)=Nat.gcd x y:=by rw[Nat.gcd_comm x y,Nat.gcd_rec y x,Nat.gcd_comm]
theorem wS{n:Nat}{s:List Int}(h:s.length<=900):cw n s=some s:=by
 unfold cw;rw[decide_eq_true (by omega:(0+s.length)*4<=140737488355328),decide_eq_true (by omega:0+s.length<=4611686018427387904)];rfl
theorem xu{n:Nat}{x y:ag}{v w:Int}(hn:20000<=n)(N:isI x.Negative x.Groups v)(j:isI y.Negative y.Groups w)(lx:x.Groups.length<=250)(ly:y.Groups.length<=250):Ok (iZ n x y) fun z=>isI z.Negative z.Groups (gZ v w):=by
 unfold iZ;refine Ok.bde (fX (by omega) (by omega) N) (Ok.bde (fX (by omega) (by omega) j) ?_);have ex:v.natAbs=(vl x.Groups).toNat:=by have:=gV N;omega
 have ey:w.natAbs=(vl y.Groups).toNat:=by have:=gV j;omega
 have e0:gZ v w=((Nat.gcd (vl x.Groups).toNat (vl y.Groups).toNat:Nat):Int):=by unfold gZ;rw[ex,ey]
 refine Ok.bd (R:=fun o=>match o with|.inl a=>Can a/\a.length<=250/\vl a=gZ v w|.inr z=>isI z.Negative z.Groups (gZ v w)) ?_ ?_
 ·refine dx (fun p:List Int×List Int=>Can p.1/\Can p.2/\p.1.length<=250/\p.2.length<=250/\((Nat.gcd (vl p.1).toNat (vl p.2).toNat:Nat):Int)=gZ v w) (fun p=>gm (vl p.1).toNat (vl p.2).toNat) ?_ n _ ⟨N.1,j.1,lx,ly,e0.symm⟩ ?_
  ·rintro again ⟨a,b⟩ ⟨J,D,la,lb,O⟩ ih;simp only at J D la lb O;dsimp only;have T:=aZ J.dig;refine Ok.cd (fun h=>?_) (fun h=>?_)
   ·have C:b≠[]:=by rintro rfl;simp at h
    have b7:=jL D C;obtain⟨ra,ea,a1,a2⟩:=qA (n:=n) J.dig (by omega);obtain⟨rb,eb,b1,b2⟩:=qA (n:=n) D.dig (by omega);have rest:Ok (bdO (iq n a b) fun U=>again (b,U.2)) fun o=>match o with|.inl a=>Can a/\a.length<=250/\vl a=gZ v w|.inr z=>isI z.Negative z.Groups (gZ v w):=by
     refine Ok.bd (BL (by omega) J D C (by omega) (by omega)) ?_;rintro⟨q,r⟩ ⟨q1,r1,r2,r3⟩;simp only at q1 r1 r2 r3;have Y:=aZ r1.dig;have er:vl r=vl a%vl b:=by
      have h1:(vl q*vl b+vl r)%vl b=vl r%vl b:=by rw[Int.add_comm,Int.add_mul_emod_self_right]
      rw[<-r3,h1,Int.emod_eq_of_lt Y r2]
     have M:(vl r).toNat=(vl a).toNat%(vl b).toNat:=by
      rw[er,Int.toNat_emod T (by omega)]
     have Z:r.length<=250:=by
      by_cases hl:r.length<=250
      ·exact hl
      ·have:=cr D.dig r1 (by omega);omega
     exact ih _ ⟨D,r1,lb,Z,by simp only;rw[M,qT];exact O⟩ (by simp only;rw[M];exact vW (by omega))
    refine Ok.bde ea (Ok.bde eb ?_);refine Ok.cd (fun h1=>?_) (fun h1=>rest);refine Ok.cd (fun h2=>?_) (fun h2=>rest);obtain⟨a6,a7⟩:=a1 h1;obtain⟨a8,b0⟩:=b1 h2;have wa:=oc J.dig a6;have wb:=oc D.dig a8;rw[a7,b0];refine Ok.bd (R:=fun m=>m=gZ v w/\m<1000000000000000000) ?_ ?_
    ·refine dx (fun p:Int×Int=>0<=p.1/\p.1<1000000000000000000/\0<=p.2/\p.2<1000000000000000000/\((Nat.gcd p.1.toNat p.2.toNat:Nat):Int)=gZ v w) (fun p=>gm p.1.toNat p.2.toNat) ?_ n _ ⟨wa.2.1,wa.2.2,wb.2.1,wb.2.2,O⟩ ?_
     ·rintro S ⟨c,d⟩ ⟨c1,c2,d1,d2,E⟩ b3;simp only at c1 c2 d1 d2 E;dsimp only;refine Ok.cd (fun h=>?_) (fun h=>?_)
      ·have hd:=dcT h;refine Ok.gd (by rw[decide_eq_false (by omega)];rfl) ?_;rw[(pd c1).2];have b4:=Int.emod_nonneg c (by omega:d≠0);have b5:=Int.emod_lt_of_pos c (by omega:0<d);have em:(c%d).toNat=c.toNat%d.toNat:=Int.toNat_emod c1 d1;exact b3 _ ⟨d1,d2,b4,by simp only;omega,by simp only;rw[em,qT];exact E⟩ (by simp only;rw[em];exact vW (by omega))
      ·have hd:=dcF h;have:d=0:=by omega
       subst this;refine ar.2 ⟨?_,c2⟩;rw[<-E];simp[Nat.gcd_zero_right];omega
     ·have:gm (vl a).toNat (vl b).toNat<=120+3:=tL (by
       have h1:(vl a).toNat<2^60:=by omega
       have h2:(vl b).toNat<2^60:=by omega
       have I:(vl a).toNat*(vl b).toNat<2^60*2^60:=Nat.mul_lt_mul'' h1 h2;rw[<-Nat.pow_add]at I;exact I)
      simp only;omega
    ·rintro m ⟨hm,b5⟩;have b6:0<=m:=by rw[hm];exact Int.natCast_nonneg _
     refine Ok.bd (lH (by omega) b6 (by omega)) ?_;rintro z ⟨z1,z2,z3⟩;refine Ok.bd (dy (by omega) false z1.dig (by omega)) fun y j=>ar.2 ?_
     rw[z2,hm]at j;exact j
   ·have C:b=[]:=by
     cases b with
     |nil=>rfl
     |cons=>exact absurd (dcF h) (by simp)
    subst C;refine ar.2 ⟨J,la,?_⟩;rw[<-O];show vl a=((Nat.gcd (vl a).toNat 0:Nat):Int);rw[Nat.gcd_zero_right];omega
  ·obtain⟨K,hK⟩:∃K:Nat,K=250:=⟨_,rfl⟩;have h1:=yW N.1.dig (k:=K) (by omega);have h2:=yW j.1.dig (k:=K) (by omega);have I:=Nat.mul_lt_mul'' h1 h2;rw[<-Nat.pow_add]at I;have:=tL I;simp only;omega
 ·rintro(a|z) h
  ·obtain⟨h1,h2,I⟩:=h;refine Ok.bde (wS (by omega)) ?_;refine Ok.bd (dy (by omega) false h1.dig (by omega)) fun y j=>ar.2 ?_
   rw[I]at j;exact j
  ·exact ar.2 h
end Go.L


set_option linter.all false
namespace Go.L
open Go Go.Eng
theorem og{n:Nat}{x:ag}{v:Int}(m:1000<=n)(j:x.Groups.length<=900)(h:isI x.Negative x.Groups v):Ok (eI n x) fun z=>isI z.Negative z.Groups (-v):=by
 unfold eI;refine Ok.bde (fX m j h) (Ok.bde (wS j) ?_);refine Ok.bd (dy m _ h.1.dig j) fun z p=>ar.2 ?_
 have:-v=if (!x.Negative)=true then-vl x.Groups else vl x.Groups:=by rw[h.2.2];cases x.Negative<;>simp
 rw[this];exact p
theorem C1{n:Nat}(a b:Int):jq n a b=some (sgn (a-b)):=by
 unfold jq;have j:(a !=a)=false:=by simp
 have m:(b !=b)=false:=by simp
 simp only[cmp_isNaN_int,bdO,j,m];rcases cM (a-b)with⟨h1,h2⟩|⟨h1,h2⟩|⟨h1,h2⟩
 ·rw[h2];rw[decide_eq_true (by omega:a<b)];rfl
 ·rw[h2];rw[decide_eq_false (by omega:¬a<b),decide_eq_false (by omega:¬a>b)];rfl
 ·rw[h2];rw[decide_eq_false (by omega:¬a<b),decide_eq_true (by omega:a>b)];rfl
theorem qn{n:Nat}{x y:ag}{v w:Int}(m:1000<=n)(j:isI x.Negative x.Groups v)(p:isI y.Negative y.Groups w)(z:x.Groups.length<=400)(C:y.Groups.length<=400):hZ n x y=some (sgn (v-w)):=by
 apply Ok.eq;unfold hZ;refine Ok.bde (jK m (by omega) j) (Ok.bde (jK m (by omega) p) ?_);have M:=cM v;have hw:=cM w;have D:=cM (v-w);refine Ok.cd (fun h=>?_) (fun h=>?_)
 ·have E:sgn v≠sgn w:=by simpa using h
  refine Ok.bde (C1 _ _) (ar.2 ?_);have I:=cM (sgn v-sgn w);omega
 ·have heq:sgn v=sgn w:=by simpa using h
  refine Ok.bde (fX m (by omega) j) (Ok.bde (fX m (by omega) p) (Ok.bde (ml j.1 p.1 z C) ?_));have N:=gV j;have O:=gV p;have I:=cM (vl x.Groups-vl y.Groups);have q:=j.2.2;have S:=aZ j.1.dig;refine Ok.cd (fun h=>?_) (fun h=>?_)
  ·rw[h,if_pos rfl]at q;have J:=jL j.1 (j.2.1 h);refine ar.2 ?_;rw[wrap64_in (by omega) (by omega)];omega
  ·rw[h]at q;simp only[Bool.false_eq_true,if_false]at q;exact ar.2 (by omega)
theorem Co{n:Nat}{x y:ag}{v w:Int}(m:1000<=n)(N:isI x.Negative x.Groups v)(C:isI y.Negative y.Groups w)(hw:w≠0)(lx:x.Groups.length<=300)(ly:y.Groups.length<=300):
  Ok (dE n x y) fun z=>∃q r,isI z.1.Negative z.1.Groups q/\isI z.2.1.Negative z.2.1.Groups r/\v=q*w+r/\((0<=r/\r<w)\/(w<r/\r<=0))/\z.2.2=0:=by
 unfold dE;refine Ok.bde (fX m (by omega) N) (Ok.bde (fX m (by omega) C) ?_);have E:y.Groups≠[]:=by
  intro h;have:=C.2.2;rw[h]at this;have e:vl ([]:List Int)=0:=rfl;rw[e]at this;apply hw;rw[this];split<;>rfl
 refine Ok.cd (fun h=>absurd h (by simp[E])) (fun h=>?_);refine Ok.bd (BL m N.1 C.1 E lx ly) ?_;rintro⟨c,d⟩ ⟨c1,d1,d2,d3⟩;simp only at c1 d1 d2 d3;dsimp only;have hyp:=jL C.1 E;have cp:=aZ c1.dig;have dp:=aZ d1.dig;have xp:=aZ N.1.dig;have ld:d.length<=300:=by
  by_cases I:d.length<=300
  ·exact I
  ·have:=cr C.1.dig d1 (by omega);omega
 have lc:c.length<=300:=by
  by_cases I:c.length<=300
  ·exact I
  ·have:=cr N.1.dig c1 (by omega);have:vl c*1<=vl c*vl y.Groups:=mlT (by omega) cp;omega
 refine Ok.bde (wS (by omega)) ?_;have S:=N.2.2;have M:=C.2.2;refine Ok.cd (fun h=>?_) (fun h=>?_)
 ·have J:d≠[]:=by rintro rfl;simp at h
  have Z:=jL d1 J;refine Ok.cd (fun h=>?_) (fun h=>?_)
  ·refine Ok.bd (vU m c1.dig (fV.2 (by omega)) (by omega) (by simp)) ?_;rintro c2 ⟨e1,e2⟩;rw[gY]at e2;have T:d.length<=y.Groups.length:=by
    by_cases I:d.length<=y.Groups.length
    ·exact I
    ·have:=cr C.1.dig d1 (by omega);omega
   refine Ok.bd (mS m C.1.dig d1.dig (by omega) T (by omega)) ?_;rintro d4 ⟨f1,f2⟩;have U:c2.length<=900:=by
    by_cases I:c2.length<=301
    ·omega
    ·have h1:=cr (kN.2 ⟨c1.dig,fV.2 (by omega:(0:Int)<=1/\(1:Int)<1000000000)⟩) e1 (by simp;omega);rw[lI,gY]at h1;have:=gM c.length;omega
   have Y:d4.length<=900:=by
    by_cases I:d4.length<=300
    ·omega
    ·have:=cr C.1.dig f1 (by omega);omega
   refine Ok.bd (dy m true e1.dig U) fun z O=>Ok.bd (dy m y.Negative f1.dig Y) fun z' p=>ar.2 ⟨_,_,O,p,?_,?_,rfl⟩
   ·rw[S,M,e2,f2,<-d3];cases D:x.Negative<;>cases j:y.Negative<;>simp[D,j]at h ⊢<;>grind
   ·rw[M,f2];cases j:y.Negative<;>simp<;>omega
  ·refine Ok.bd (dy m false c1.dig (by omega)) fun z O=>Ok.bd (dy m y.Negative d1.dig (by omega)) fun z' p=>ar.2 ⟨_,_,O,p,?_,?_,rfl⟩
   ·rw[S,M,<-d3];cases D:x.Negative<;>cases j:y.Negative<;>simp[D,j]at h ⊢<;>grind
   ·rw[M];cases j:y.Negative<;>simp<;>omega
 ·have J:d=[]:=by
   cases d with
   |nil=>rfl
   |cons=>exact absurd (dcF h) (by simp)
  subst J;have e0:vl ([]:List Int)=0:=rfl;refine Ok.bd (dy m _ c1.dig (by omega)) fun z O=>Ok.bd (dy m y.Negative nA (by simp)) fun z' p=>ar.2 ⟨_,_,O,p,?_,?_,rfl⟩
  ·rw[S,M,<-d3];rw[e0];cases D:x.Negative<;>cases j:y.Negative<;>simp<;>grind
  ·rw[M];rw[e0];cases j:y.Negative<;>simp<;>omega
theorem jX{n:Nat}{x y:ag}{k w:Int}(m:1000<=n)(p:isI x.Negative x.Groups (k*w))(C:isI y.Negative y.Groups w)(hw:w≠0)(D:x.Groups.length<=300)(E:y.Groups.length<=300):Ok (dE n x y) fun z=>isI z.1.Negative z.1.Groups k:=by
 refine(Co m p C hw D E).mono ?_;rintro z ⟨q,r,h1,h2,I,J,M⟩;have e:(k-q)*w=r:=by grind
 have:k-q=0:=by
  by_cases h:k-q=0
  ·exact h
  ·exfalso;by_cases hp:0<w
   ·by_cases j:1<=k-q
    ·have:1*w<=(k-q)*w:=mrT j (by omega);omega
    ·have:(k-q)*w<=(-1)*w:=mrT (by omega) (by omega);omega
   ·by_cases j:1<=k-q
    ·have:1*(-w)<=(k-q)*(-w):=mrT j (by omega);have e2:(k-q)*(-w)=-r:=by rw[Int.mul_neg,e]
     omega
    ·have:(k-q)*(-w)<=(-1)*(-w):=mrT (by omega) (by omega);have e2:(k-q)*(-w)=-r:=by rw[Int.mul_neg,e]
     omega
 rw[(by omega:k=q)];exact h1
end Go.L


set_option linter.all false
namespace Go.L
open Go Go.Eng
def Qx(x:ae)(r:Rat)(k:Nat):Prop:=QL x.Num.Negative x.Num.Groups x.Den.Negative x.Den.Groups r k
theorem Bp{n:Nat}{x y:ag}{p q:Int}{k:Nat}(U:20000<=n)(hk:k<=250)(C:isI x.Negative x.Groups p)(D:isI y.Negative y.Groups q)(Y:x.Groups.length<=k)(Z:y.Groups.length<=k)(J:0<q):
  Ok (bdO (iZ n x y) fun m=>bdO (dE n x m) fun E=>bdO (dE n y m) fun I=>some (ae.mk E.1 I.1)) fun z=>Qx z (Rat.divInt p q) k:=by
 have M:=Bc (v:=p) (by omega:q≠0);refine Ok.bd (xu U C D (by omega) (by omega)) fun g j=>?_
 have bq:=jA D Z;have bp:=jA C Y;have N:=rz p q;have O:=qg p q;have ap:=lk p _ M N;have aq:=lk q _ M O;have lg:g.Groups.length<=k:=gU j (by omega) (by
  have:1*gZ p q<=(q / gZ p q)*gZ p q:=mrT (by
   by_cases h:1<=q / gZ p q
   ·exact h
   ·have:(q / gZ p q)*gZ p q<=0*gZ p q:=mrT (by omega) (by omega);omega) (by omega)
  omega)
 refine Ok.bd (jX (k:=p / gZ p q) (by omega) (by rw[<-N];exact C) j (by omega) (by omega) (by omega)) fun a S=>?_
 refine Ok.bd (jX (k:=q / gZ p q) (by omega) (by rw[<-O];exact D) j (by omega) (by omega) (by omega)) fun b T=>ar.2 ?_
 exact⟨by rw[ow J];exact S,by rw[oa J];exact T,gU S (by omega) (by omega),gU T (by omega) (by omega)⟩
theorem mB{p q:Bool}{g h:List Int}{v:Int}(a:isI p g v)(b:isI q h (-v)){k:Nat}(hk:g.length<=k):h.length<=k:=by
 have:=jA a hk;exact gU b (by omega) (by omega)
theorem jV{n:Nat}{x y:ag}{p q:Int}{k:Nat}(E:20000<=n)(hk:k<=250)(D:isI x.Negative x.Groups p)(C:isI y.Negative y.Groups q)(I:x.Groups.length<=k)(J:y.Groups.length<=k)(M:q≠0):
  Ok (eH n x y) fun z=>Qx z (Rat.divInt p q) k:=by
 unfold eH;refine Ok.bde (jK (by omega) (by omega) C) ?_;have hs:=cM q;refine Ok.cd (fun h=>?_) (fun h=>?_)
 ·have:=dcT h;refine Ok.bd (og (by omega) (by omega) D) fun N j=>Ok.bd (og (by omega) (by omega) C) fun O m=>?_
  rw[<-sR];exact Bp E hk j m (mB D j I) (mB C m J) (by omega)
 ·have:=dcF h;exact Bp E hk D C I J (by omega)
theorem nC{n:Nat}{x:ae}{r:Rat}{k:Nat}(m:20000<=n)(hk:k<=250)(h:Qx x r k):jT n x=some true:=by
 apply Ok.eq;unfold jT;have hp:=den_pos r;have p:=h.nl;have q:=h.dl;refine Ok.bde (lP (by omega) (by omega) h.num) (Ok.cd (fun h=>by cases h) fun _=>?_);refine Ok.bde (lP (by omega) (by omega) h.den) (Ok.cd (fun h=>by cases h) fun _=>?_);refine Ok.bde (jK (by omega) (by omega) h.den) ?_;rw[qe hp];refine Ok.cd (fun h=>absurd h (by decide)) fun _=>?_
 refine Ok.bd (xu m h.num h.den (by omega) (by omega)) fun g j=>?_
 rw[DG]at j;refine Ok.bd (sC (by omega) (by decide) (by decide)) fun one h1=>?_
 have l1:=fw h1 (by decide) (by decide);have z:=fw j (by decide) (by decide);refine Ok.bde (qn (by omega) j h1 (by omega) (by omega)) (ar.2 rfl)
theorem B8{n:Nat}{x:ae}{r:Rat}{k:Nat}(E:20000<=n)(hk:k<=250)(h:Qx x r k):Ok (jr n x) fun z=>Qx z r k:=by
 unfold jr;have q:=h.nl;have C:=h.dl;refine Ok.bd (og (by omega) (by omega) h.num) fun a j=>?_
 have D:=mB h.num j h.nl;refine Ok.bd (og (by omega) (by omega) j) fun b m=>?_
 have lb:=mB j m D;refine Ok.bd (og (by omega) (by omega) h.den) fun c hc=>?_
 have lc:=mB h.den hc h.dl;refine Ok.bd (og (by omega) (by omega) hc) fun d p=>ar.2 ?_
 have ld:=mB hc p lc;rw[Int.neg_neg]at m p;exact⟨m,p,lb,ld⟩
theorem eJ{n:Nat}{x:ae}{r:Rat}{k:Nat}(j:20000<=n)(hk:k<=250)(h:Qx x r k):Ok (bB n x) fun z=>Qx z r k:=by
 unfold bB;refine Ok.bde (nC j hk h) (Ok.cd (fun _=>Ok.bd (B8 j hk h) fun z m=>ar.2 m) fun h=>by cases h)
theorem gG{n:Nat}{v:Int}(C:20000<=n)(j:-9223372036854775808<=v)(m:v<=9223372036854775807):Ok (aY n v) fun z=>Qx z (Rat.divInt v 1) 3:=by
 unfold aY;refine Ok.bd (sC (by omega) j m) fun a p=>Ok.bd (sC (by omega) (by decide) (by decide)) fun b q=>ar.2 ?_
 obtain⟨e1,e2⟩:=xW v;exact⟨by rw[e1];exact p,by rw[e2];exact q,fw p j m,fw q (by decide) (by decide)⟩
theorem Ev{n:Nat}{x y:ag}{p q:Int}{k:Nat}(C:20000<=n)(hk:k<=250)(m:isI x.Negative x.Groups p)(j:isI y.Negative y.Groups q)(D:x.Groups.length<=k)(E:y.Groups.length<=k)(I:q≠0):
  Ok (lK n x y) fun z=>Qx z.1 (Rat.divInt p q) k/\z.2=0:=by
 unfold lK fD;refine Ok.bde (b:=x) (by rw[lP (by omega) (by omega) m];rfl) (Ok.bde (b:=y) (by rw[lP (by omega) (by omega) j];rfl) ?_);refine Ok.bde (jK (by omega) (by omega) j) ?_;have hs:=cM q;refine Ok.cd (fun h=>?_) (fun h=>?_)
 ·have:sgn q=0:=by simpa using h
  omega
 ·exact Ok.bd (jV C hk m j D E I) fun z J=>ar.2 ⟨J,rfl⟩
theorem xb{n:Nat}{p q:Int}(I:20000<=n)(m:-9223372036854775808<=p)(C:p<=9223372036854775807)(h1:-9223372036854775808<=q)(j:q<=9223372036854775807)(J:q≠0):Ok (gC n p q) fun z=>Qx z.1 (Rat.divInt p q) 3/\z.2=0:=by
 unfold gC;refine Ok.bd (sC (by omega) m C) fun a D=>Ok.bd (sC (by omega) h1 j) fun b E=>?_
 exact Ok.bd (Ev I (k:=3) (by omega) D E (fw D m C) (fw E h1 j) J) fun z M=>ar.2 M
theorem EP(a b:Rat):Rat.divInt (a.num*b.num) ((a.den:Int)*(b.den:Int))=a*b:=by
 rw[<-Rat.divInt_mul_divInt,Rat.num_divInt_den,Rat.num_divInt_den]
theorem zg(a b:Rat):Rat.divInt (a.num*(b.den:Int)+b.num*(a.den:Int)) ((a.den:Int)*(b.den:Int))=a+b:=by
 have h1:=den_pos a;have h2:=den_pos b;rw[<-Rat.divInt_add_divInt _ _ (by omega) (by omega),Rat.num_divInt_den,Rat.num_divInt_den]
theorem ma{n:Nat}{x y:ae}{a b:Rat}{j k:Nat}(C:20000<=n)(hk:j+k<=250)(I:Qx x a j)(J:Qx y b k):Ok (cq n x y) fun z=>Qx z (a*b) (j+k):=by
 unfold cq;refine Ok.bd (eJ C (by omega) I) fun u hu=>Ok.bd (eJ C (by omega) J) fun v m=>?_
 have M:=hu.nl;have n2:=m.nl;have d1:=hu.dl;have d2:=m.dl;refine Ok.bd (kR (by omega) hu.num m.num (by omega) (by omega)) fun p hp=>Ok.bd (kR (by omega) hu.den m.den (by omega) (by omega)) fun q D=>?_
 have h1:=den_pos a;have h2:=den_pos b;have N:(0:Int)<(a.den:Int)*(b.den:Int):=Int.mul_pos h1 h2;refine Ok.bd (jV C hk hp D (eD hu.num m.num hp M n2) (eD hu.den m.den D d1 d2) (by omega)) fun z E=>ar.2 ?_
 rw[EP]at E;exact E
theorem jj{n:Nat}{x y:ae}{a b:Rat}{j k:Nat}(D:20000<=n)(hk:j+k+1<=250)(J:Qx x a j)(M:Qx y b k):Ok (bU n x y) fun z=>Qx z (a+b) (j+k+1):=by
 unfold bU;refine Ok.bd (eJ D (by omega) J) fun u hu=>Ok.bd (eJ D (by omega) M) fun v m=>?_
 have N:=hu.nl;have n2:=m.nl;have d1:=hu.dl;have d2:=m.dl;refine Ok.bd (kR (by omega) hu.num m.den (by omega) (by omega)) fun p hp=>Ok.bd (kR (by omega) m.num hu.den (by omega) (by omega)) fun S C=>?_
 have T:=eD hu.num m.den hp N d2;have O:=eD m.num hu.den C n2 d1;refine Ok.bd (xj (by omega) hp C (by omega) (by omega)) fun s hs=>Ok.bd (kR (by omega) hu.den m.den (by omega) (by omega)) fun q E=>?_
 have ls:=rT hp C hs (k:=j+k) (by omega) (by omega);have U:=eD hu.den m.den E d1 d2;have h1:=den_pos a;have h2:=den_pos b;have Y:(0:Int)<(a.den:Int)*(b.den:Int):=Int.mul_pos h1 h2;refine Ok.bd (jV D hk hs E (by omega) (by omega) (by omega)) fun z I=>ar.2 ?_
 rw[zg]at I;exact I
end Go.L

