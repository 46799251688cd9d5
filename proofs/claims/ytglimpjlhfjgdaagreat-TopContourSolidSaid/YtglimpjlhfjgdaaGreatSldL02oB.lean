import Derived.Test.YtglimpjlhfjgdaaGreatSldL01h
import Derived.Test.YtglimpjlhfjgdaaGreatPl6Slds
import Derived.Test.YtglimpjlhfjgdaaGreatSldLD
import Derived.Test.YtglimpjlhfjgdaaGreatPl6Slds
set_option linter.all false
namespace Go.L
open Go Go.Eng
theorem mD{g:List Int}(h:Dig g)(j:g.length<=2):qj g.reverse=vl g/\0<=vl g/\vl g<1000000000000000000:=by
 match g,j with
 |[],_=>exact⟨rfl,by decide,by decide⟩
 |[d],_=>
  have m:=kV.1 h;have e:vl [d]=d:=lK d;rw[e];refine⟨?_,by omega,by omega⟩;simp only[qj,List.reverse_cons,List.reverse_nil,List.nil_append,List.foldl,IntKind.wrap_u64];omega
 |[d,e],_=>
  have h1:=ig.1 h;have h2:=kV.1 h1.2;have e1:vl [d,e]=d+1000000000*e:=by show d+1000000000*vl [e]=_;rw[lK]
  rw[e1];refine⟨?_,by omega,by omega⟩;simp only[qj,List.reverse_cons,List.reverse_nil,List.nil_append,List.cons_append,List.foldl,IntKind.wrap_u64];omega
theorem pj{n:Nat}{g:List Int}(h:Dig g)(m:g.length<=900):∃r,gx n g=some r/\(r.2=true->g.length<=2/\r.1=vl g)/\(r.2=false->2<g.length):=by
 unfold gx;rw[decide_eq_true (by omega:g.length<=1099511627776)];refine⟨_,rfl,?_⟩;by_cases j:g.length>2
 ·rw[decide_eq_true j];exact⟨fun h=>(by cases h),fun _=>j⟩
 ·rw[decide_eq_false j];exact⟨fun _=>⟨by omega,(mD h (by omega)).1⟩,fun h=>(by cases h)⟩
theorem CP{n:Nat}{a b:List Int}(I:1000<=n)(m:Can a)(p:Can b)(D:b≠[])(la:a.length<=300)(lb:b.length<=300):Ok (gw n a b) fun r=>Can r.1/\Can r.2/\vl r.2<vl b/\vl r.1*vl b+vl r.2=vl a:=by
 unfold gw;have M:=qT p D;have j:=bM m.dig;rw[kB m p (by omega) (by omega)];show Ok (cdO _ _ _) _;refine Ok.cd (fun h=>?_) (fun h=>?_)
 ·have N:vl a<vl b:=by
   have:=dcT h;rcases bZ (vl a-vl b)with⟨g1,g2⟩|⟨g1,g2⟩|⟨g1,g2⟩<;>omega
  exact aC.2 ⟨trivial,m,N,by show 0*vl b+vl a=vl a;omega⟩
 ·have hle:vl b<=vl a:=by
   have:=dcF h;rcases bZ (vl a-vl b)with⟨g1,g2⟩|⟨g1,g2⟩|⟨g1,g2⟩<;>omega
  obtain⟨ra,ea,a1,a2⟩:=pj (n:=n) m.dig (by omega);obtain⟨rb,eb,b1,b2⟩:=pj (n:=n) p.dig (by omega);have b3:0<b.length:=List.length_pos_iff.2 D;have rest:Ok (cdO (((b.length:Int):Int)==1) (gdO (inR 0 b.length) (bdO (eH n a (gt b 0)) fun v17=>bdO (cy n (aa .u64 v17.2)) fun O=>some ((v17.1,O)))) (bdO (hU n a b) fun v21=>some ((v21.1,v21.2))))
    fun r=>Can r.1/\Can r.2/\vl r.2<vl b/\vl r.1*vl b+vl r.2=vl a:=by
   refine Ok.cd (fun h=>?_) (fun h=>?_)
   ·have hl:b.length=1:=by simp at h;omega
    obtain⟨d,rfl⟩:∃d,b=[d]:=by
     match b,hl with
     |[d],_=>exact⟨d,rfl⟩
    have hd:=kV.1 p.dig;have b4:d≠0:=p.2.1 rfl;refine Ok.gd rfl ?_;have e:gt [d] 0=d:=rfl;rw[e];refine Ok.bd (tx m.dig (by omega) (by omega) (by omega)) ?_;rintro⟨q,r⟩ ⟨J,C,T⟩;simp only at J C T;dsimp only;rw[ba C.1 (by omega)];refine Ok.bd (nI I C.1 (by omega)) ?_;rintro z ⟨z1,z2,z3⟩;refine aC.2 ⟨J,z1,?_,?_⟩
    ·simp only[z2,lK];exact C.2
    ·simp only[z2,lK];exact T
   ·have hl:b.length≠1:=by simp at h;omega
    exact Ok.bd (Hm I m p (by omega) la lb hle) fun r hr=>aC.2 hr
  refine Ok.bde ea (Ok.bde eb ?_);refine Ok.cd (fun h=>?_) (fun h=>rest);refine Ok.cd (fun h'=>?_) (fun h'=>rest);obtain⟨U,Y⟩:=a1 h;obtain⟨a6,a7⟩:=b1 h';have wa:=mD m.dig U;have wb:=mD p.dig a6;rw[Y,a7];refine Ok.gd (by rw[decide_eq_false (by omega)];rfl) ?_;rw[(wN j).1,(wN j).2];have hm:=Int.emod_add_mul_ediv (vl a) (vl b);have a8:=Int.emod_nonneg (vl a) (by omega:vl b≠0);have b0:=Int.emod_lt_of_pos (vl a) M;have E:0<=vl a / vl b:=Int.ediv_nonneg j (by omega);have b5:vl a / vl b<=vl a:=Int.ediv_le_self _ j;rw[ba E (by omega)];refine Ok.bd (nI I E (by omega)) ?_;rintro q ⟨J,C,T⟩;refine Ok.bd (nI I a8 (by omega)) ?_;rintro r ⟨r1,r2,r3⟩;refine aC.2 ⟨J,r1,?_,?_⟩
  ·simp only[r2];exact b0
  ·simp only[C,r2];rw[Int.mul_comm];omega
theorem Af(x y:Nat):Nat.gcd y (x%y)=Nat.gcd x y:=by rw[Nat.gcd_comm x y,Nat.gcd_rec y x,Nat.gcd_comm]
theorem wB{n:Nat}{s:List Int}(h:s.length<=900):bU n s=some s:=by
 unfold bU;rw[decide_eq_true (by omega:(0+s.length)*4<=140737488355328),decide_eq_true (by omega:0+s.length<=4611686018427387904)];rfl
theorem E9{n:Nat}{x y:ah}{v w:Int}(hn:20000<=n)(N:isI x.Negative x.Groups v)(j:isI y.Negative y.Groups w)(lx:x.Groups.length<=250)(ly:y.Groups.length<=250):Ok (gT n x y) fun z=>isI z.Negative z.Groups (gZ v w):=by
 unfold gT;refine Ok.bde (eT (by omega) (by omega) N) (Ok.bde (eT (by omega) (by omega) j) ?_);have ex:v.natAbs=(vl x.Groups).toNat:=by have:=lY N;omega
 have ey:w.natAbs=(vl y.Groups).toNat:=by have:=lY j;omega
 have e0:gZ v w=((Nat.gcd (vl x.Groups).toNat (vl y.Groups).toNat:Nat):Int):=by unfold gZ;rw[ex,ey]
 refine Ok.bd (R:=fun o=>match o with|.inl a=>Can a/\a.length<=250/\vl a=gZ v w|.inr z=>isI z.Negative z.Groups (gZ v w)) ?_ ?_
 ·refine fu (fun p:List Int×List Int=>Can p.1/\Can p.2/\p.1.length<=250/\p.2.length<=250/\((Nat.gcd (vl p.1).toNat (vl p.2).toNat:Nat):Int)=gZ v w) (fun p=>gm (vl p.1).toNat (vl p.2).toNat) ?_ n _ ⟨N.1,j.1,lx,ly,e0.symm⟩ ?_
  ·rintro again ⟨a,b⟩ ⟨J,D,la,lb,O⟩ ih;simp only at J D la lb O;dsimp only;have U:=bM J.dig;refine Ok.cd (fun h=>?_) (fun h=>?_)
   ·have C:b≠[]:=by rintro rfl;simp at h
    have b9:=qT D C;obtain⟨ra,ea,a1,a2⟩:=pj (n:=n) J.dig (by omega);obtain⟨rb,eb,b1,b2⟩:=pj (n:=n) D.dig (by omega);have rest:Ok (bdO (gw n a b) fun Y=>again (b,Y.2)) fun o=>match o with|.inl a=>Can a/\a.length<=250/\vl a=gZ v w|.inr z=>isI z.Negative z.Groups (gZ v w):=by
     refine Ok.bd (CP (by omega) J D C (by omega) (by omega)) ?_;rintro⟨q,r⟩ ⟨q1,r1,r2,r3⟩;simp only at q1 r1 r2 r3;have a6:=bM r1.dig;have er:vl r=vl a%vl b:=by
      have h1:(vl q*vl b+vl r)%vl b=vl r%vl b:=by rw[Int.add_comm,Int.add_mul_emod_self_right]
      rw[<-r3,h1,Int.emod_eq_of_lt a6 r2]
     have M:(vl r).toNat=(vl a).toNat%(vl b).toNat:=by
      rw[er,Int.toNat_emod U (by omega)]
     have a7:r.length<=250:=by
      by_cases hl:r.length<=250
      ·exact hl
      ·have:=fF D.dig r1 (by omega);omega
     exact ih _ ⟨D,r1,lb,a7,by simp only;rw[M,Af];exact O⟩ (by simp only;rw[M];exact Db (by omega))
    refine Ok.bde ea (Ok.bde eb ?_);refine Ok.cd (fun h1=>?_) (fun h1=>rest);refine Ok.cd (fun h2=>?_) (fun h2=>rest);obtain⟨a8,b0⟩:=a1 h1;obtain⟨b3,b4⟩:=b1 h2;have wa:=mD J.dig a8;have wb:=mD D.dig b3;rw[b0,b4];refine Ok.bd (R:=fun m=>m=gZ v w/\m<1000000000000000000) ?_ ?_
    ·refine fu (fun p:Int×Int=>0<=p.1/\p.1<1000000000000000000/\0<=p.2/\p.2<1000000000000000000/\((Nat.gcd p.1.toNat p.2.toNat:Nat):Int)=gZ v w) (fun p=>gm p.1.toNat p.2.toNat) ?_ n _ ⟨wa.2.1,wa.2.2,wb.2.1,wb.2.2,O⟩ ?_
     ·rintro T ⟨c,d⟩ ⟨c1,c2,d1,d2,E⟩ b5;simp only at c1 c2 d1 d2 E;dsimp only;refine Ok.cd (fun h=>?_) (fun h=>?_)
      ·have hd:=dcT h;refine Ok.gd (by rw[decide_eq_false (by omega)];rfl) ?_;rw[(wN c1).2];have b6:=Int.emod_nonneg c (by omega:d≠0);have b7:=Int.emod_lt_of_pos c (by omega:0<d);have em:(c%d).toNat=c.toNat%d.toNat:=Int.toNat_emod c1 d1;exact b5 _ ⟨d1,d2,b6,by simp only;omega,by simp only;rw[em,Af];exact E⟩ (by simp only;rw[em];exact Db (by omega))
      ·have hd:=dcF h;have:d=0:=by omega
       subst this;refine aC.2 ⟨?_,c2⟩;rw[<-E];simp[Nat.gcd_zero_right];omega
     ·have:gm (vl a).toNat (vl b).toNat<=120+3:=A5 (by
       have h1:(vl a).toNat<2^60:=by omega
       have h2:(vl b).toNat<2^60:=by omega
       have I:(vl a).toNat*(vl b).toNat<2^60*2^60:=Nat.mul_lt_mul'' h1 h2;rw[<-Nat.pow_add]at I;exact I)
      simp only;omega
    ·rintro m ⟨hm,b7⟩;have b8:0<=m:=by rw[hm];exact Int.natCast_nonneg _
     refine Ok.bd (nI (by omega) b8 (by omega)) ?_;rintro z ⟨z1,z2,z3⟩;refine Ok.bd (ia (by omega) false z1.dig (by omega)) fun y j=>aC.2 ?_
     rw[z2,hm]at j;exact j
   ·have C:b=[]:=by
     cases b with
     |nil=>rfl
     |cons=>exact absurd (dcF h) (by simp)
    subst C;refine aC.2 ⟨J,la,?_⟩;rw[<-O];show vl a=((Nat.gcd (vl a).toNat 0:Nat):Int);rw[Nat.gcd_zero_right];omega
  ·obtain⟨K,hK⟩:∃K:Nat,K=250:=⟨_,rfl⟩;have h1:=FZ N.1.dig (k:=K) (by omega);have h2:=FZ j.1.dig (k:=K) (by omega);have I:=Nat.mul_lt_mul'' h1 h2;rw[<-Nat.pow_add]at I;have:=A5 I;simp only;omega
 ·rintro(a|z) h
  ·obtain⟨h1,h2,I⟩:=h;refine Ok.bde (wB (by omega)) ?_;refine Ok.bd (ia (by omega) false h1.dig (by omega)) fun y j=>aC.2 ?_
   rw[I]at j;exact j
  ·exact aC.2 h
end Go.L


set_option linter.all false
namespace Go.L
open Go Go.Eng
theorem rW{n:Nat}{x:ah}{v:Int}(m:1000<=n)(j:x.Groups.length<=900)(h:isI x.Negative x.Groups v):Ok (dI n x) fun z=>isI z.Negative z.Groups (-v):=by
 unfold dI;refine Ok.bde (eT m j h) (Ok.bde (wB j) ?_);refine Ok.bd (ia m _ h.1.dig j) fun z p=>aC.2 ?_
 have:-v=if (!x.Negative)=true then-vl x.Groups else vl x.Groups:=by rw[h.2.2];cases x.Negative<;>simp
 rw[this];exact p
theorem EP{n:Nat}(a b:Int):iq n a b=some (sgn (a-b)):=by
 unfold iq;have j:(a !=a)=false:=by simp
 have m:(b !=b)=false:=by simp
 simp only[cmp_isNaN_int,bdO,j,m];rcases bZ (a-b)with⟨h1,h2⟩|⟨h1,h2⟩|⟨h1,h2⟩
 ·rw[h2];rw[decide_eq_true (by omega:a<b)];rfl
 ·rw[h2];rw[decide_eq_false (by omega:¬a<b),decide_eq_false (by omega:¬a>b)];rfl
 ·rw[h2];rw[decide_eq_false (by omega:¬a<b),decide_eq_true (by omega:a>b)];rfl
theorem xv{n:Nat}{x y:ah}{v w:Int}(m:1000<=n)(j:isI x.Negative x.Groups v)(p:isI y.Negative y.Groups w)(z:x.Groups.length<=400)(C:y.Groups.length<=400):fV n x y=some (sgn (v-w)):=by
 apply Ok.eq;unfold fV;refine Ok.bde (oG m (by omega) j) (Ok.bde (oG m (by omega) p) ?_);have M:=bZ v;have hw:=bZ w;have D:=bZ (v-w);refine Ok.cd (fun h=>?_) (fun h=>?_)
 ·have E:sgn v≠sgn w:=by simpa using h
  refine Ok.bde (EP _ _) (aC.2 ?_);have I:=bZ (sgn v-sgn w);omega
 ·have heq:sgn v=sgn w:=by simpa using h
  refine Ok.bde (eT m (by omega) j) (Ok.bde (eT m (by omega) p) (Ok.bde (kB j.1 p.1 z C) ?_));have ax:=lY j;have ay:=lY p;have I:=bZ (vl x.Groups-vl y.Groups);have q:=j.2.2;have N:=bM j.1.dig;refine Ok.cd (fun h=>?_) (fun h=>?_)
  ·rw[h,if_pos rfl]at q;have J:=qT j.1 (j.2.1 h);refine aC.2 ?_;rw[wrap64_in (by omega) (by omega)];omega
  ·rw[h]at q;simp only[Bool.false_eq_true,if_false]at q;exact aC.2 (by omega)
theorem En{n:Nat}{x y:ah}{v w:Int}(m:1000<=n)(N:isI x.Negative x.Groups v)(C:isI y.Negative y.Groups w)(hw:w≠0)(lx:x.Groups.length<=300)(ly:y.Groups.length<=300):
  Ok (cY n x y) fun z=>∃q r,isI z.1.Negative z.1.Groups q/\isI z.2.1.Negative z.2.1.Groups r/\v=q*w+r/\((0<=r/\r<w)\/(w<r/\r<=0))/\z.2.2=0:=by
 unfold cY;refine Ok.bde (eT m (by omega) N) (Ok.bde (eT m (by omega) C) ?_);have E:y.Groups≠[]:=by
  intro h;have:=C.2.2;rw[h]at this;have e:vl ([]:List Int)=0:=rfl;rw[e]at this;apply hw;rw[this];split<;>rfl
 refine Ok.cd (fun h=>absurd h (by simp[E])) (fun h=>?_);refine Ok.bd (CP m N.1 C.1 E lx ly) ?_;rintro⟨c,d⟩ ⟨c1,d1,d2,d3⟩;simp only at c1 d1 d2 d3;dsimp only;have hyp:=qT C.1 E;have cp:=bM c1.dig;have dp:=bM d1.dig;have xp:=bM N.1.dig;have ld:d.length<=300:=by
  by_cases I:d.length<=300
  ·exact I
  ·have:=fF C.1.dig d1 (by omega);omega
 have lc:c.length<=300:=by
  by_cases I:c.length<=300
  ·exact I
  ·have:=fF N.1.dig c1 (by omega);have:vl c*1<=vl c*vl y.Groups:=mlT (by omega) cp;omega
 refine Ok.bde (wB (by omega)) ?_;have T:=N.2.2;have M:=C.2.2;refine Ok.cd (fun h=>?_) (fun h=>?_)
 ·have J:d≠[]:=by rintro rfl;simp at h
  have a6:=qT d1 J;refine Ok.cd (fun h=>?_) (fun h=>?_)
  ·refine Ok.bd (Dv m c1.dig (kV.2 (by omega)) (by omega) (by simp)) ?_;rintro c2 ⟨e1,e2⟩;rw[lK]at e2;have U:d.length<=y.Groups.length:=by
    by_cases I:d.length<=y.Groups.length
    ·exact I
    ·have:=fF C.1.dig d1 (by omega);omega
   refine Ok.bd (wF m C.1.dig d1.dig (by omega) U (by omega)) ?_;rintro d4 ⟨f1,f2⟩;have Y:c2.length<=900:=by
    by_cases I:c2.length<=301
    ·omega
    ·have h1:=fF (tL.2 ⟨c1.dig,kV.2 (by omega:(0:Int)<=1/\(1:Int)<1000000000)⟩) e1 (by simp;omega);rw[pW,lK]at h1;have:=jo c.length;omega
   have a1:d4.length<=900:=by
    by_cases I:d4.length<=300
    ·omega
    ·have:=fF C.1.dig f1 (by omega);omega
   refine Ok.bd (ia m true e1.dig Y) fun z O=>Ok.bd (ia m y.Negative f1.dig a1) fun z' p=>aC.2 ⟨_,_,O,p,?_,?_,rfl⟩
   ·rw[T,M,e2,f2,<-d3];cases D:x.Negative<;>cases j:y.Negative<;>simp[D,j]at h ⊢<;>grind
   ·rw[M,f2];cases j:y.Negative<;>simp<;>omega
  ·refine Ok.bd (ia m false c1.dig (by omega)) fun z O=>Ok.bd (ia m y.Negative d1.dig (by omega)) fun z' p=>aC.2 ⟨_,_,O,p,?_,?_,rfl⟩
   ·rw[T,M,<-d3];cases D:x.Negative<;>cases j:y.Negative<;>simp[D,j]at h ⊢<;>grind
   ·rw[M];cases j:y.Negative<;>simp<;>omega
 ·have J:d=[]:=by
   cases d with
   |nil=>rfl
   |cons=>exact absurd (dcF h) (by simp)
  subst J;have e0:vl ([]:List Int)=0:=rfl;refine Ok.bd (ia m _ c1.dig (by omega)) fun z O=>Ok.bd (ia m y.Negative tK (by simp)) fun z' p=>aC.2 ⟨_,_,O,p,?_,?_,rfl⟩
  ·rw[T,M,<-d3];rw[e0];cases D:x.Negative<;>cases j:y.Negative<;>simp<;>grind
  ·rw[M];rw[e0];cases j:y.Negative<;>simp<;>omega
theorem vC{n:Nat}{x y:ah}{k w:Int}(m:1000<=n)(p:isI x.Negative x.Groups (k*w))(C:isI y.Negative y.Groups w)(hw:w≠0)(D:x.Groups.length<=300)(E:y.Groups.length<=300):Ok (cY n x y) fun z=>isI z.1.Negative z.1.Groups k:=by
 refine(En m p C hw D E).mono ?_;rintro z ⟨q,r,h1,h2,I,J,M⟩;have e:(k-q)*w=r:=by grind
 have:k-q=0:=by
  by_cases h:k-q=0
  ·exact h
  ·exfalso;by_cases hp:0<w
   ·by_cases j:1<=k-q
    ·have:1*w<=(k-q)*w:=mrT j (by omega);omega
    ·have:(k-q)*w<=(-1)*w:=mrT (by omega) (by omega);omega
   ·by_cases j:1<=k-q
    ·have:1*(-w)<=(k-q)*(-w):=mrT j (by omega);have e2:(k-q)*(-w)=-r:=by rw[Int.mul_neg,e]
     omega
    ·have:(k-q)*(-w)<=(-1)*(-w):=mrT (by omega) (by omega);have e2:(k-q)*(-w)=-r:=by rw[Int.mul_neg,e]
     omega
 rw[(by omega:k=q)];exact h1
end Go.L


set_option linter.all false
namespace Go.L
open Go Go.Eng
def Qx(x:an)(r:Rat)(k:Nat):Prop:=QL x.Num.Negative x.Num.Groups x.Den.Negative x.Den.Groups r k
theorem CM{n:Nat}{x y:ah}{p q:Int}{k:Nat}(Y:20000<=n)(hk:k<=250)(C:isI x.Negative x.Groups p)(D:isI y.Negative y.Groups q)(lx:x.Groups.length<=k)(ly:y.Groups.length<=k)(J:0<q):
  Ok (bdO (gT n x y) fun m=>bdO (cY n x m) fun E=>bdO (cY n y m) fun I=>some (an.mk E.1 I.1)) fun z=>Qx z (Rat.divInt p q) k:=by
 have M:=Fl (v:=p) (by omega:q≠0);refine Ok.bd (E9 Y C D (by omega) (by omega)) fun g j=>?_
 have bq:=kD D ly;have bp:=kD C lx;have N:=vv p q;have O:=tk p q;have ap:=mX p _ M N;have aq:=mX q _ M O;have lg:g.Groups.length<=k:=kK j (by omega) (by
  have:1*gZ p q<=(q / gZ p q)*gZ p q:=mrT (by
   by_cases h:1<=q / gZ p q
   ·exact h
   ·have:(q / gZ p q)*gZ p q<=0*gZ p q:=mrT (by omega) (by omega);omega) (by omega)
  omega)
 refine Ok.bd (vC (k:=p / gZ p q) (by omega) (by rw[<-N];exact C) j (by omega) (by omega) (by omega)) fun a T=>?_
 refine Ok.bd (vC (k:=q / gZ p q) (by omega) (by rw[<-O];exact D) j (by omega) (by omega) (by omega)) fun b U=>aC.2 ?_
 exact⟨by rw[sm J];exact T,by rw[sJ J];exact U,kK T (by omega) (by omega),kK U (by omega) (by omega)⟩
theorem pq{p q:Bool}{g h:List Int}{v:Int}(a:isI p g v)(b:isI q h (-v)){k:Nat}(hk:g.length<=k):h.length<=k:=by
 have:=kD a hk;exact kK b (by omega) (by omega)
theorem rL{n:Nat}{x y:ah}{p q:Int}{k:Nat}(E:20000<=n)(hk:k<=250)(D:isI x.Negative x.Groups p)(C:isI y.Negative y.Groups q)(I:x.Groups.length<=k)(J:y.Groups.length<=k)(M:q≠0):
  Ok (dF n x y) fun z=>Qx z (Rat.divInt p q) k:=by
 unfold dF;refine Ok.bde (oG (by omega) (by omega) C) ?_;have hs:=bZ q;refine Ok.cd (fun h=>?_) (fun h=>?_)
 ·have:=dcT h;refine Ok.bd (rW (by omega) (by omega) D) fun N j=>Ok.bd (rW (by omega) (by omega) C) fun O m=>?_
  rw[<-Bw];exact CM E hk j m (pq D j I) (pq C m J) (by omega)
 ·have:=dcF h;exact CM E hk D C I J (by omega)
theorem yb{n:Nat}{x:an}{r:Rat}{k:Nat}(m:20000<=n)(hk:k<=250)(h:Qx x r k):fJ n x=some true:=by
 apply Ok.eq;unfold fJ;have hp:=den_pos r;have p:=h.nl;have q:=h.dl;refine Ok.bde (qa (by omega) (by omega) h.num) (Ok.cd (fun h=>by cases h) fun _=>?_);refine Ok.bde (qa (by omega) (by omega) h.den) (Ok.cd (fun h=>by cases h) fun _=>?_);refine Ok.bde (oG (by omega) (by omega) h.den) ?_;rw[vQ hp];refine Ok.cd (fun h=>absurd h (by decide)) fun _=>?_
 refine Ok.bd (E9 m h.num h.den (by omega) (by omega)) fun g j=>?_
 rw[Jf]at j;refine Ok.bd (x9 (by omega) (by decide) (by decide)) fun one h1=>?_
 have l1:=jF h1 (by decide) (by decide);have z:=jF j (by decide) (by decide);refine Ok.bde (xv (by omega) j h1 (by omega) (by omega)) (aC.2 rfl)
theorem Ef{n:Nat}{x:an}{r:Rat}{k:Nat}(E:20000<=n)(hk:k<=250)(h:Qx x r k):Ok (iw n x) fun z=>Qx z r k:=by
 unfold iw;have q:=h.nl;have C:=h.dl;refine Ok.bd (rW (by omega) (by omega) h.num) fun a j=>?_
 have D:=pq h.num j h.nl;refine Ok.bd (rW (by omega) (by omega) j) fun b m=>?_
 have lb:=pq j m D;refine Ok.bd (rW (by omega) (by omega) h.den) fun c hc=>?_
 have lc:=pq h.den hc h.dl;refine Ok.bd (rW (by omega) (by omega) hc) fun d p=>aC.2 ?_
 have ld:=pq hc p lc;rw[Int.neg_neg]at m p;exact⟨m,p,lb,ld⟩
theorem jQ{n:Nat}{x:an}{r:Rat}{k:Nat}(j:20000<=n)(hk:k<=250)(h:Qx x r k):Ok (bH n x) fun z=>Qx z r k:=by
 unfold bH;refine Ok.bde (yb j hk h) (Ok.cd (fun _=>Ok.bd (Ef j hk h) fun z m=>aC.2 m) fun h=>by cases h)
theorem oh{n:Nat}{v:Int}(C:20000<=n)(j:-9223372036854775808<=v)(m:v<=9223372036854775807):Ok (cg n v) fun z=>Qx z (Rat.divInt v 1) 3:=by
 unfold cg;refine Ok.bd (x9 (by omega) j m) fun a p=>Ok.bd (x9 (by omega) (by decide) (by decide)) fun b q=>aC.2 ?_
 obtain⟨e1,e2⟩:=Ek v;exact⟨by rw[e1];exact p,by rw[e2];exact q,jF p j m,jF q (by decide) (by decide)⟩
theorem HO{n:Nat}{x y:ah}{p q:Int}{k:Nat}(C:20000<=n)(hk:k<=250)(m:isI x.Negative x.Groups p)(j:isI y.Negative y.Groups q)(D:x.Groups.length<=k)(E:y.Groups.length<=k)(I:q≠0):
  Ok (kd n x y) fun z=>Qx z.1 (Rat.divInt p q) k/\z.2=0:=by
 unfold kd eE;refine Ok.bde (b:=x) (by rw[qa (by omega) (by omega) m];rfl) (Ok.bde (b:=y) (by rw[qa (by omega) (by omega) j];rfl) ?_);refine Ok.bde (oG (by omega) (by omega) j) ?_;have hs:=bZ q;refine Ok.cd (fun h=>?_) (fun h=>?_)
 ·have:sgn q=0:=by simpa using h
  omega
 ·exact Ok.bd (rL C hk m j D E I) fun z J=>aC.2 ⟨J,rfl⟩
theorem Iw{n:Nat}{p q:Int}(I:20000<=n)(m:-9223372036854775808<=p)(C:p<=9223372036854775807)(h1:-9223372036854775808<=q)(j:q<=9223372036854775807)(J:q≠0):Ok (jK n p q) fun z=>Qx z.1 (Rat.divInt p q) 3/\z.2=0:=by
 unfold jK;refine Ok.bd (x9 (by omega) m C) fun a D=>Ok.bd (x9 (by omega) h1 j) fun b E=>?_
 exact Ok.bd (HO I (k:=3) (by omega) D E (jF D m C) (jF E h1 j) J) fun z M=>aC.2 M
theorem Hu(a b:Rat):Rat.divInt (a.num*b.num) ((a.den:Int)*(b.den:Int))=a*b:=by
 rw[<-Rat.divInt_mul_divInt,Rat.num_divInt_den,Rat.num_divInt_den]
theorem GH(a b:Rat):Rat.divInt (a.num*(b.den:Int)+b.num*(a.den:Int)) ((a.den:Int)*(b.den:Int))=a+b:=by
 have h1:=den_pos a;have h2:=den_pos b;rw[<-Rat.divInt_add_divInt _ _ (by omega) (by omega),Rat.num_divInt_den,Rat.num_divInt_den]
theorem tX{n:Nat}{x y:an}{a b:Rat}{j k:Nat}(C:20000<=n)(hk:j+k<=250)(I:Qx x a j)(J:Qx y b k):Ok (dA n x y) fun z=>Qx z (a*b) (j+k):=by
 unfold dA;refine Ok.bd (jQ C (by omega) I) fun u hu=>Ok.bd (jQ C (by omega) J) fun v m=>?_
 have M:=hu.nl;have n2:=m.nl;have d1:=hu.dl;have d2:=m.dl;refine Ok.bd (qx (by omega) hu.num m.num (by omega) (by omega)) fun p hp=>Ok.bd (qx (by omega) hu.den m.den (by omega) (by omega)) fun q D=>?_
 have h1:=den_pos a;have h2:=den_pos b;have N:(0:Int)<(a.den:Int)*(b.den:Int):=Int.mul_pos h1 h2;refine Ok.bd (rL C hk hp D (gU hu.num m.num hp M n2) (gU hu.den m.den D d1 d2) (by omega)) fun z E=>aC.2 ?_
 rw[Hu]at E;exact E
theorem zj{n:Nat}{x y:an}{a b:Rat}{j k:Nat}(D:20000<=n)(hk:j+k+1<=250)(J:Qx x a j)(M:Qx y b k):Ok (gq n x y) fun z=>Qx z (a+b) (j+k+1):=by
 unfold gq;refine Ok.bd (jQ D (by omega) J) fun u hu=>Ok.bd (jQ D (by omega) M) fun v m=>?_
 have N:=hu.nl;have n2:=m.nl;have d1:=hu.dl;have d2:=m.dl;refine Ok.bd (qx (by omega) hu.num m.den (by omega) (by omega)) fun p hp=>Ok.bd (qx (by omega) m.num hu.den (by omega) (by omega)) fun p' C=>?_
 have T:=gU hu.num m.den hp N d2;have O:=gU m.num hu.den C n2 d1;refine Ok.bd (FT (by omega) hp C (by omega) (by omega)) fun s hs=>Ok.bd (qx (by omega) hu.den m.den (by omega) (by omega)) fun q E=>?_
 have ls:=vr hp C hs (k:=j+k) (by omega) (by omega);have U:=gU hu.den m.den E d1 d2;have h1:=den_pos a;have h2:=den_pos b;have Y:(0:Int)<(a.den:Int)*(b.den:Int):=Int.mul_pos h1 h2;refine Ok.bd (rL D hk hs E (by omega) (by omega) (by omega)) fun z I=>aC.2 ?_
 rw[GH]at I;exact I
end Go.L


set_option linter.all false
namespace Go.L.R
open Go Go.Eng Go.L
end Go.L.R


set_option linter.all false
namespace Go.L.R
open Go Go.Eng Go.L
end Go.L.R


set_option linter.all false
namespace Go.L.R
open Go Go.Eng Go.L
end Go.L.R


set_option linter.all false
namespace Go.L.R
open Go Go.Eng Go.L
end Go.L.R


set_option linter.all false
namespace Go.L.R
open Go Go.Eng Go.L
end Go.L.R


set_option linter.all false
namespace Go.L.R
open Go Go.Eng Go.L
def Qx(x:an)(r:Rat)(k:Nat):Prop:=QL x.Num.Negative x.Num.Groups x.Den.Negative x.Den.Groups r k
end Go.L.R


set_option linter.unusedVariables false
namespace Go.L
open Go Go.Eng
theorem QL.tight{nn dn:Bool}{ng m:List Int}{r:Rat}{j:Nat}(h:QL nn ng dn m r j){p q:Int}{k:Nat}(D:r=Rat.divInt p q)(z:0<q)(h1:-pB k<p)(h2:p<pB k)(E:q<pB k):QL nn ng dn m r k:=by
 subst D;have C:=Fl (v:=p) (w:=q) (by omega);have I:=mX p _ C (vv p q);have a2:=mX q _ C (tk p q);have e1:=sm (p:=p) z;have e2:=sJ (p:=p) z;refine⟨h.num,h.den,kK h.num (by rw[e1];omega) (by rw[e1];omega),kK h.den (by rw[e2];have:=jo k;omega) (by rw[e2];omega)⟩
theorem jM(a:Int):Rat.divInt a 1=(a:Rat):=by
 rw[Rat.divInt_eq_div];grind
end Go.L


set_option linter.unusedVariables false
namespace Go.L
open Go Go.Eng
end Go.L

