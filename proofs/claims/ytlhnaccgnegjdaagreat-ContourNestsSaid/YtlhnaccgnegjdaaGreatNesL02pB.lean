import Derived.Test.YtlhnaccgnegjdaaGreatNesL01h
import Derived.Test.YtlhnaccgnegjdaaGreatPl6Ness
set_option linter.all false
namespace Go.L
open Go Go.Eng
theorem oZ{g:List Int}(h:Dig g)(j:g.length<=2):rZ g.reverse=vl g/\0<=vl g/\vl g<1000000000000000000:=by
 match g,j with
 |[],_=>exact⟨rfl,by decide,by decide⟩
 |[d],_=>
  have m:=fN.1 h;have e:vl [d]=d:=hZ d;rw[e];refine⟨?_,by omega,by omega⟩;simp only[rZ,List.reverse_cons,List.reverse_nil,List.nil_append,List.foldl,IntKind.wrap_u64];omega
 |[d,e],_=>
  have h1:=iX.1 h;have h2:=fN.1 h1.2;have e1:vl [d,e]=d+1000000000*e:=by show d+1000000000*vl [e]=_;rw[hZ]
  rw[e1];refine⟨?_,by omega,by omega⟩;simp only[rZ,List.reverse_cons,List.reverse_nil,List.nil_append,List.cons_append,List.foldl,IntKind.wrap_u64];omega
theorem qP{n:Nat}{g:List Int}(h:Dig g)(m:g.length<=900):∃r,iG n g=some r/\(r.2=true->g.length<=2/\r.1=vl g)/\(r.2=false->2<g.length):=by
 unfold iG;rw[decide_eq_true (by omega:g.length<=1099511627776)];refine⟨_,rfl,?_⟩;by_cases j:g.length>2
 ·rw[decide_eq_true j];exact⟨fun h=>(by cases h),fun _=>j⟩
 ·rw[decide_eq_false j];exact⟨fun _=>⟨by omega,(oZ h (by omega)).1⟩,fun h=>(by cases h)⟩
theorem C6{n:Nat}{a b:List Int}(J:1000<=n)(ha:Can a)(hb:Can b)(p:b≠[])(la:a.length<=300)(lb:b.length<=300):Ok (iH n a b) fun r=>Can r.1/\Can r.2/\vl r.2<vl b/\vl r.1*vl b+vl r.2=vl a:=by
 unfold iH;have N:=jM hb p;have j:=ba ha.dig;rw[mT ha hb (by omega) (by omega)];show Ok (cdO _ _ _) _;refine Ok.cd (fun h=>?_) (fun h=>?_)
 ·have O:vl a<vl b:=by
   have:=dcT h;rcases cR (vl a-vl b)with⟨g1,C⟩|⟨g1,C⟩|⟨g1,C⟩<;>omega
  exact aw.2 ⟨trivial,ha,O,by show 0*vl b+vl a=vl a;omega⟩
 ·have hle:vl b<=vl a:=by
   have:=dcF h;rcases cR (vl a-vl b)with⟨g1,C⟩|⟨g1,C⟩|⟨g1,C⟩<;>omega
  obtain⟨ra,ea,a1,a2⟩:=qP (n:=n) ha.dig (by omega);obtain⟨rb,eb,b1,b2⟩:=qP (n:=n) hb.dig (by omega);have a7:0<b.length:=List.length_pos_iff.2 p;have rest:Ok (cdO (((b.length:Int):Int)==1) (gdO (inR 0 b.length) (bdO (fB n a (gt b 0)) fun D=>bdO (cV n (aa .u64 D.2)) fun T=>some ((D.1,T)))) (bdO (jm n a b) fun E=>some ((E.1,E.2))))
    fun r=>Can r.1/\Can r.2/\vl r.2<vl b/\vl r.1*vl b+vl r.2=vl a:=by
   refine Ok.cd (fun h=>?_) (fun h=>?_)
   ·have hl:b.length=1:=by simp at h;omega
    obtain⟨d,rfl⟩:∃d,b=[d]:=by
     match b,hl with
     |[d],_=>exact⟨d,rfl⟩
    have hd:=fN.1 hb.dig;have a8:d≠0:=hb.2.1 rfl;refine Ok.gd rfl ?_;have e:gt [d] 0=d:=rfl;rw[e];refine Ok.bd (oT ha.dig (by omega) (by omega) (by omega)) ?_;rintro⟨q,r⟩ ⟨M,m,U⟩;simp only at M m U;dsimp only;rw[aF m.1 (by omega)];refine Ok.bd (lT J m.1 (by omega)) ?_;rintro z ⟨z1,z2,z3⟩;refine aw.2 ⟨M,z1,?_,?_⟩
    ·simp only[z2,hZ];exact m.2
    ·simp only[z2,hZ];exact U
   ·have hl:b.length≠1:=by simp at h;omega
    exact Ok.bd (GR J ha hb (by omega) la lb hle) fun r hr=>aw.2 hr
  refine Ok.bde ea (Ok.bde eb ?_);refine Ok.cd (fun h=>?_) (fun h=>rest);refine Ok.cd (fun h'=>?_) (fun h'=>rest);obtain⟨Y,a0⟩:=a1 h;obtain⟨a3,a4⟩:=b1 h';have wa:=oZ ha.dig Y;have wb:=oZ hb.dig a3;rw[a0,a4];refine Ok.gd (by rw[decide_eq_false (by omega)];rfl) ?_;rw[(pN j).1,(pN j).2];have hm:=Int.emod_add_mul_ediv (vl a) (vl b);have a5:=Int.emod_nonneg (vl a) (by omega:vl b≠0);have a6:=Int.emod_lt_of_pos (vl a) N;have I:0<=vl a / vl b:=Int.ediv_nonneg j (by omega);have a9:vl a / vl b<=vl a:=Int.ediv_le_self _ j;rw[aF I (by omega)];refine Ok.bd (lT J I (by omega)) ?_;rintro q ⟨M,m,U⟩;refine Ok.bd (lT J a5 (by omega)) ?_;rintro r ⟨r1,r2,r3⟩;refine aw.2 ⟨M,r1,?_,?_⟩
  ·simp only[r2];exact a6
  ·simp only[m,r2];rw[Int.mul_comm];omega
theorem sm(x y:Nat):Nat.gcd y (x%y)=Nat.gcd x y:=by rw[Nat.gcd_comm x y,Nat.gcd_rec y x,Nat.gcd_comm]
theorem xu{n:Nat}{s:List Int}(h:s.length<=900):cv n s=some s:=by
 unfold cv;rw[decide_eq_true (by omega:(0+s.length)*4<=140737488355328),decide_eq_true (by omega:0+s.length<=4611686018427387904)];rfl
theorem xl{n:Nat}{x y:ah}{v w:Int}(hn:20000<=n)(hx:isI x.Negative x.Groups v)(j:isI y.Negative y.Groups w)(lx:x.Groups.length<=250)(ly:y.Groups.length<=250):Ok (jj n x y) fun z=>isI z.Negative z.Groups (gZ v w):=by
 unfold jj;refine Ok.bde (im (by omega) (by omega) hx) (Ok.bde (im (by omega) (by omega) j) ?_);have ex:v.natAbs=(vl x.Groups).toNat:=by have:=gT hx;omega
 have ey:w.natAbs=(vl y.Groups).toNat:=by have:=gT j;omega
 have e0:gZ v w=((Nat.gcd (vl x.Groups).toNat (vl y.Groups).toNat:Nat):Int):=by unfold gZ;rw[ex,ey]
 refine Ok.bd (R:=fun o=>match o with|.inl a=>Can a/\a.length<=250/\vl a=gZ v w|.inr z=>isI z.Negative z.Groups (gZ v w)) ?_ ?_
 ·refine dD (fun p:List Int×List Int=>Can p.1/\Can p.2/\p.1.length<=250/\p.2.length<=250/\((Nat.gcd (vl p.1).toNat (vl p.2).toNat:Nat):Int)=gZ v w) (fun p=>gm (vl p.1).toNat (vl p.2).toNat) ?_ n _ ⟨hx.1,j.1,lx,ly,e0.symm⟩ ?_
  ·rintro again ⟨a,b⟩ ⟨ha,hb,la,lb,J⟩ ih;simp only at ha hb la lb J;dsimp only;have N:=ba ha.dig;refine Ok.cd (fun h=>?_) (fun h=>?_)
   ·have C:b≠[]:=by rintro rfl;simp at h
    have a9:=jM hb C;obtain⟨ra,ea,a1,a2⟩:=qP (n:=n) ha.dig (by omega);obtain⟨rb,eb,b1,b2⟩:=qP (n:=n) hb.dig (by omega);have rest:Ok (bdO (iH n a b) fun O=>again (b,O.2)) fun o=>match o with|.inl a=>Can a/\a.length<=250/\vl a=gZ v w|.inr z=>isI z.Negative z.Groups (gZ v w):=by
     refine Ok.bd (C6 (by omega) ha hb C (by omega) (by omega)) ?_;rintro⟨q,r⟩ ⟨q1,r1,r2,r3⟩;simp only at q1 r1 r2 r3;have T:=ba r1.dig;have er:vl r=vl a%vl b:=by
      have h1:(vl q*vl b+vl r)%vl b=vl r%vl b:=by rw[Int.add_comm,Int.add_mul_emod_self_right]
      rw[<-r3,h1,Int.emod_eq_of_lt T r2]
     have I:(vl r).toNat=(vl a).toNat%(vl b).toNat:=by
      rw[er,Int.toNat_emod N (by omega)]
     have U:r.length<=250:=by
      by_cases hl:r.length<=250
      ·exact hl
      ·have:=ck hb.dig r1 (by omega);omega
     exact ih _ ⟨hb,r1,lb,U,by simp only;rw[I,sm];exact J⟩ (by simp only;rw[I];exact xe (by omega))
    refine Ok.bde ea (Ok.bde eb ?_);refine Ok.cd (fun h1=>?_) (fun h1=>rest);refine Ok.cd (fun h2=>?_) (fun h2=>rest);obtain⟨Y,a0⟩:=a1 h1;obtain⟨a3,a4⟩:=b1 h2;have wa:=oZ ha.dig Y;have wb:=oZ hb.dig a3;rw[a0,a4];refine Ok.bd (R:=fun m=>m=gZ v w/\m<1000000000000000000) ?_ ?_
    ·refine dD (fun p:Int×Int=>0<=p.1/\p.1<1000000000000000000/\0<=p.2/\p.2<1000000000000000000/\((Nat.gcd p.1.toNat p.2.toNat:Nat):Int)=gZ v w) (fun p=>gm p.1.toNat p.2.toNat) ?_ n _ ⟨wa.2.1,wa.2.2,wb.2.1,wb.2.2,J⟩ ?_
     ·rintro M ⟨c,d⟩ ⟨c1,c2,d1,d2,D⟩ a5;simp only at c1 c2 d1 d2 D;dsimp only;refine Ok.cd (fun h=>?_) (fun h=>?_)
      ·have hd:=dcT h;refine Ok.gd (by rw[decide_eq_false (by omega)];rfl) ?_;rw[(pN c1).2];have a6:=Int.emod_nonneg c (by omega:d≠0);have a7:=Int.emod_lt_of_pos c (by omega:0<d);have em:(c%d).toNat=c.toNat%d.toNat:=Int.toNat_emod c1 d1;exact a5 _ ⟨d1,d2,a6,by simp only;omega,by simp only;rw[em,sm];exact D⟩ (by simp only;rw[em];exact xe (by omega))
      ·have hd:=dcF h;have:d=0:=by omega
       subst this;refine aw.2 ⟨?_,c2⟩;rw[<-D];simp[Nat.gcd_zero_right];omega
     ·have:gm (vl a).toNat (vl b).toNat<=120+3:=uV (by
       have h1:(vl a).toNat<2^60:=by omega
       have h2:(vl b).toNat<2^60:=by omega
       have E:(vl a).toNat*(vl b).toNat<2^60*2^60:=Nat.mul_lt_mul'' h1 h2;rw[<-Nat.pow_add]at E;exact E)
      simp only;omega
    ·rintro m ⟨hm,a7⟩;have a8:0<=m:=by rw[hm];exact Int.natCast_nonneg _
     refine Ok.bd (lT (by omega) a8 (by omega)) ?_;rintro z ⟨z1,z2,z3⟩;refine Ok.bd (dy (by omega) false z1.dig (by omega)) fun y j=>aw.2 ?_
     rw[z2,hm]at j;exact j
   ·have C:b=[]:=by
     cases b with
     |nil=>rfl
     |cons=>exact absurd (dcF h) (by simp)
    subst C;refine aw.2 ⟨ha,la,?_⟩;rw[<-J];show vl a=((Nat.gcd (vl a).toNat 0:Nat):Int);rw[Nat.gcd_zero_right];omega
  ·obtain⟨K,hK⟩:∃K:Nat,K=250:=⟨_,rfl⟩;have h1:=Ai hx.1.dig (k:=K) (by omega);have h2:=Ai j.1.dig (k:=K) (by omega);have E:=Nat.mul_lt_mul'' h1 h2;rw[<-Nat.pow_add]at E;have:=uV E;simp only;omega
 ·rintro(a|z) h
  ·obtain⟨h1,h2,E⟩:=h;refine Ok.bde (xu (by omega)) ?_;refine Ok.bd (dy (by omega) false h1.dig (by omega)) fun y j=>aw.2 ?_
   rw[E]at j;exact j
  ·exact aw.2 h
end Go.L


set_option linter.all false
namespace Go.L
open Go Go.Eng
theorem oE{n:Nat}{x:ah}{v:Int}(m:1000<=n)(j:x.Groups.length<=900)(h:isI x.Negative x.Groups v):Ok (eJ n x) fun z=>isI z.Negative z.Groups (-v):=by
 unfold eJ;refine Ok.bde (im m j h) (Ok.bde (xu j) ?_);refine Ok.bd (dy m _ h.1.dig j) fun z p=>aw.2 ?_
 have:-v=if (!x.Negative)=true then-vl x.Groups else vl x.Groups:=by rw[h.2.2];cases x.Negative<;>simp
 rw[this];exact p
theorem El{n:Nat}(a b:Int):ju n a b=some (sgn (a-b)):=by
 unfold ju;have j:(a !=a)=false:=by simp
 have m:(b !=b)=false:=by simp
 simp only[kG,bdO,j,m];rcases cR (a-b)with⟨h1,h2⟩|⟨h1,h2⟩|⟨h1,h2⟩
 ·rw[h2];rw[decide_eq_true (by omega:a<b)];rfl
 ·rw[h2];rw[decide_eq_false (by omega:¬a<b),decide_eq_false (by omega:¬a>b)];rfl
 ·rw[h2];rw[decide_eq_false (by omega:¬a<b),decide_eq_true (by omega:a>b)];rfl
theorem qO{n:Nat}{x y:ah}{v w:Int}(j:1000<=n)(hx:isI x.Negative x.Groups v)(m:isI y.Negative y.Groups w)(q:x.Groups.length<=400)(z:y.Groups.length<=400):ig n x y=some (sgn (v-w)):=by
 apply Ok.eq;unfold ig;refine Ok.bde (kR j (by omega) hx) (Ok.bde (kR j (by omega) m) ?_);have J:=cR v;have hw:=cR w;have C:=cR (v-w);refine Ok.cd (fun h=>?_) (fun h=>?_)
 ·have D:sgn v≠sgn w:=by simpa using h
  refine Ok.bde (El _ _) (aw.2 ?_);have E:=cR (sgn v-sgn w);omega
 ·have heq:sgn v=sgn w:=by simpa using h
  refine Ok.bde (im j (by omega) hx) (Ok.bde (im j (by omega) m) (Ok.bde (mT hx.1 m.1 q z) ?_));have ax:=gT hx;have ay:=gT m;have E:=cR (vl x.Groups-vl y.Groups);have p:=hx.2.2;have M:=ba hx.1.dig;refine Ok.cd (fun h=>?_) (fun h=>?_)
  ·rw[h,if_pos rfl]at p;have I:=jM hx.1 (hx.2.1 h);refine aw.2 ?_;rw[wrap64_in (by omega) (by omega)];omega
  ·rw[h]at p;simp only[Bool.false_eq_true,if_false]at p;exact aw.2 (by omega)
theorem DQ{n:Nat}{x y:ah}{v w:Int}(m:1000<=n)(hx:isI x.Negative x.Groups v)(C:isI y.Negative y.Groups w)(hw:w≠0)(lx:x.Groups.length<=300)(ly:y.Groups.length<=300):
  Ok (dF n x y) fun z=>∃q r,isI z.1.Negative z.1.Groups q/\isI z.2.1.Negative z.2.1.Groups r/\v=q*w+r/\((0<=r/\r<w)\/(w<r/\r<=0))/\z.2.2=0:=by
 unfold dF;refine Ok.bde (im m (by omega) hx) (Ok.bde (im m (by omega) C) ?_);have E:y.Groups≠[]:=by
  intro h;have:=C.2.2;rw[h]at this;have e:vl ([]:List Int)=0:=rfl;rw[e]at this;apply hw;rw[this];split<;>rfl
 refine Ok.cd (fun h=>absurd h (by simp[E])) (fun h=>?_);refine Ok.bd (C6 m hx.1 C.1 E lx ly) ?_;rintro⟨c,d⟩ ⟨I,d1,d2,d3⟩;simp only at I d1 d2 d3;dsimp only;have hyp:=jM C.1 E;have cp:=ba I.dig;have dp:=ba d1.dig;have xp:=ba hx.1.dig;have ld:d.length<=300:=by
  by_cases J:d.length<=300
  ·exact J
  ·have:=ck C.1.dig d1 (by omega);omega
 have lc:c.length<=300:=by
  by_cases J:c.length<=300
  ·exact J
  ·have:=ck hx.1.dig I (by omega);have:vl c*1<=vl c*vl y.Groups:=mlT (by omega) cp;omega
 refine Ok.bde (xu (by omega)) ?_;have T:=hx.2.2;have N:=C.2.2;refine Ok.cd (fun h=>?_) (fun h=>?_)
 ·have M:d≠[]:=by rintro rfl;simp at h
  have a1:=jM d1 M;refine Ok.cd (fun h=>?_) (fun h=>?_)
  ·refine Ok.bd (xc m I.dig (fN.2 (by omega)) (by omega) (by simp)) ?_;rintro c2 ⟨e1,e2⟩;rw[hZ]at e2;have U:d.length<=y.Groups.length:=by
    by_cases J:d.length<=y.Groups.length
    ·exact J
    ·have:=ck C.1.dig d1 (by omega);omega
   refine Ok.bd (nG m C.1.dig d1.dig (by omega) U (by omega)) ?_;rintro d4 ⟨f1,f2⟩;have Y:c2.length<=900:=by
    by_cases J:c2.length<=301
    ·omega
    ·have h1:=ck (ln.2 ⟨I.dig,fN.2 (by omega:(0:Int)<=1/\(1:Int)<1000000000)⟩) e1 (by simp;omega);rw[me,hZ]at h1;have:=gF c.length;omega
   have a0:d4.length<=900:=by
    by_cases J:d4.length<=300
    ·omega
    ·have:=ck C.1.dig f1 (by omega);omega
   refine Ok.bd (dy m true e1.dig Y) fun z O=>Ok.bd (dy m y.Negative f1.dig a0) fun z' p=>aw.2 ⟨_,_,O,p,?_,?_,rfl⟩
   ·rw[T,N,e2,f2,<-d3];cases D:x.Negative<;>cases j:y.Negative<;>simp[D,j]at h ⊢<;>grind
   ·rw[N,f2];cases j:y.Negative<;>simp<;>omega
  ·refine Ok.bd (dy m false I.dig (by omega)) fun z O=>Ok.bd (dy m y.Negative d1.dig (by omega)) fun z' p=>aw.2 ⟨_,_,O,p,?_,?_,rfl⟩
   ·rw[T,N,<-d3];cases D:x.Negative<;>cases j:y.Negative<;>simp[D,j]at h ⊢<;>grind
   ·rw[N];cases j:y.Negative<;>simp<;>omega
 ·have M:d=[]:=by
   cases d with
   |nil=>rfl
   |cons=>exact absurd (dcF h) (by simp)
  subst M;have e0:vl ([]:List Int)=0:=rfl;refine Ok.bd (dy m _ I.dig (by omega)) fun z O=>Ok.bd (dy m y.Negative og (by simp)) fun z' p=>aw.2 ⟨_,_,O,p,?_,?_,rfl⟩
  ·rw[T,N,<-d3];rw[e0];cases D:x.Negative<;>cases j:y.Negative<;>simp<;>grind
  ·rw[N];rw[e0];cases j:y.Negative<;>simp<;>omega
theorem ke{n:Nat}{x y:ah}{k w:Int}(m:1000<=n)(hx:isI x.Negative x.Groups (k*w))(p:isI y.Negative y.Groups w)(hw:w≠0)(C:x.Groups.length<=300)(D:y.Groups.length<=300):Ok (dF n x y) fun z=>isI z.1.Negative z.1.Groups k:=by
 refine(DQ m hx p hw C D).mono ?_;rintro z ⟨q,r,h1,h2,E,I,J⟩;have e:(k-q)*w=r:=by grind
 have:k-q=0:=by
  by_cases h:k-q=0
  ·exact h
  ·exfalso;by_cases hp:0<w
   ·by_cases j:1<=k-q
    ·have:1*w<=(k-q)*w:=mrT j (by omega);omega
    ·have:(k-q)*w<=(-1)*w:=mrT (by omega) (by omega);omega
   ·by_cases j:1<=k-q
    ·have:1*(-w)<=(k-q)*(-w):=mrT j (by omega);have e2:(k-q)*(-w)=-r:=by rw[Int.mul_neg,e]
     omega
    ·have:(k-q)*(-w)<=(-1)*(-w):=mrT (by omega) (by omega);have e2:(k-q)*(-w)=-r:=by rw[Int.mul_neg,e]
     omega
 rw[(by omega:k=q)];exact h1
end Go.L


set_option linter.all false
namespace Go.L
open Go Go.Eng
def Qx(x:aj)(r:Rat)(k:Nat):Prop:=QL x.Num.Negative x.Num.Groups x.Den.Negative x.Den.Groups r k
theorem CD{n:Nat}{x y:ah}{p q:Int}{k:Nat}(O:20000<=n)(Y:k<=250)(hx:isI x.Negative x.Groups p)(C:isI y.Negative y.Groups q)(T:x.Groups.length<=k)(U:y.Groups.length<=k)(I:0<q):
  Ok (bdO (jj n x y) fun m=>bdO (dF n x m) fun D=>bdO (dF n y m) fun E=>some (aj.mk D.1 E.1)) fun z=>Qx z (Rat.divInt p q) k:=by
 have J:=B4 (v:=p) (by omega:q≠0);refine Ok.bd (xl O hx C (by omega) (by omega)) fun g j=>?_
 have bq:=jC C U;have bp:=jC hx T;have M:=rW p q;have N:=qG p q;have ap:=lO p _ J M;have aq:=lO q _ J N;have lg:g.Groups.length<=k:=iV j (by omega) (by
  have:1*gZ p q<=(q / gZ p q)*gZ p q:=mrT (by
   by_cases h:1<=q / gZ p q
   ·exact h
   ·have:(q / gZ p q)*gZ p q<=0*gZ p q:=mrT (by omega) (by omega);omega) (by omega)
  omega)
 refine Ok.bd (ke (k:=p / gZ p q) (by omega) (by rw[<-M];exact hx) j (by omega) (by omega) (by omega)) fun a ha=>?_
 refine Ok.bd (ke (k:=q / gZ p q) (by omega) (by rw[<-N];exact C) j (by omega) (by omega) (by omega)) fun b hb=>aw.2 ?_
 exact⟨by rw[oQ I];exact ha,by rw[oF I];exact hb,iV ha (by omega) (by omega),iV hb (by omega) (by omega)⟩
theorem np{p q:Bool}{g h:List Int}{v:Int}(a:isI p g v)(b:isI q h (-v)){k:Nat}(j:g.length<=k):h.length<=k:=by
 have:=jC a j;exact iV b (by omega) (by omega)
theorem lq{n:Nat}{x y:ah}{p q:Int}{k:Nat}(D:20000<=n)(E:k<=250)(hx:isI x.Negative x.Groups p)(C:isI y.Negative y.Groups q)(I:x.Groups.length<=k)(J:y.Groups.length<=k)(M:q≠0):
  Ok (eH n x y) fun z=>Qx z (Rat.divInt p q) k:=by
 unfold eH;refine Ok.bde (kR (by omega) (by omega) C) ?_;have hs:=cR q;refine Ok.cd (fun h=>?_) (fun h=>?_)
 ·have:=dcT h;refine Ok.bd (oE (by omega) (by omega) hx) fun N j=>Ok.bd (oE (by omega) (by omega) C) fun O m=>?_
  rw[<-uc];exact CD D E j m (np hx j I) (np C m J) (by omega)
 ·have:=dcF h;exact CD D E hx C I J (by omega)
theorem p6{n:Nat}{x:aj}{r:Rat}{k:Nat}(m:20000<=n)(z:k<=250)(h:Qx x r k):fF n x=some true:=by
 apply Ok.eq;unfold fF;have hp:=den_pos r;have p:=h.nl;have q:=h.dl;refine Ok.bde (mh (by omega) (by omega) h.num) (Ok.cd (fun h=>by cases h) fun _=>?_);refine Ok.bde (mh (by omega) (by omega) h.den) (Ok.cd (fun h=>by cases h) fun _=>?_);refine Ok.bde (kR (by omega) (by omega) h.den) ?_;rw[qC hp];refine Ok.cd (fun h=>absurd h (by decide)) fun _=>?_
 refine Ok.bd (xl m h.num h.den (by omega) (by omega)) fun g j=>?_
 rw[EZ]at j;refine Ok.bd (xI (by omega) (by decide) (by decide)) fun one h1=>?_
 have l1:=fX h1 (by decide) (by decide);have C:=fX j (by decide) (by decide);refine Ok.bde (qO (by omega) j h1 (by omega) (by omega)) (aw.2 rfl)
theorem D9{n:Nat}{x:aj}{r:Rat}{k:Nat}(C:20000<=n)(D:k<=250)(h:Qx x r k):Ok (jy n x) fun z=>Qx z r k:=by
 unfold jy;have j:=h.nl;have m:=h.dl;refine Ok.bd (oE (by omega) (by omega) h.num) fun a ha=>?_
 have p:=np h.num ha h.nl;refine Ok.bd (oE (by omega) (by omega) ha) fun b hb=>?_
 have lb:=np ha hb p;refine Ok.bd (oE (by omega) (by omega) h.den) fun c hc=>?_
 have lc:=np h.den hc h.dl;refine Ok.bd (oE (by omega) (by omega) hc) fun d hd=>aw.2 ?_
 have q:=np hc hd lc;rw[Int.neg_neg]at hb hd;exact⟨hb,hd,lb,q⟩
theorem fq{n:Nat}{x:aj}{r:Rat}{k:Nat}(j:20000<=n)(m:k<=250)(h:Qx x r k):Ok (cc n x) fun z=>Qx z r k:=by
 unfold cc;refine Ok.bde (p6 j m h) (Ok.cd (fun _=>Ok.bd (D9 j m h) fun z p=>aw.2 p) fun h=>by cases h)
theorem mW{n:Nat}{v:Int}(p:20000<=n)(j:-9223372036854775808<=v)(m:v<=9223372036854775807):Ok (di n v) fun z=>Qx z (Rat.divInt v 1) 3:=by
 unfold di;refine Ok.bd (xI (by omega) j m) fun a ha=>Ok.bd (xI (by omega) (by decide) (by decide)) fun b hb=>aw.2 ?_
 obtain⟨e1,e2⟩:=zp v;exact⟨by rw[e1];exact ha,by rw[e2];exact hb,fX ha j m,fX hb (by decide) (by decide)⟩
theorem Gy{n:Nat}{x y:ah}{p q:Int}{k:Nat}(m:20000<=n)(C:k<=250)(hx:isI x.Negative x.Groups p)(j:isI y.Negative y.Groups q)(D:x.Groups.length<=k)(E:y.Groups.length<=k)(I:q≠0):
  Ok (mw n x y) fun z=>Qx z.1 (Rat.divInt p q) k/\z.2=0:=by
 unfold mw ft;refine Ok.bde (b:=x) (by rw[mh (by omega) (by omega) hx];rfl) (Ok.bde (b:=y) (by rw[mh (by omega) (by omega) j];rfl) ?_);refine Ok.bde (kR (by omega) (by omega) j) ?_;have hs:=cR q;refine Ok.cd (fun h=>?_) (fun h=>?_)
 ·have:sgn q=0:=by simpa using h
  omega
 ·exact Ok.bd (lq m C hx j D E I) fun z J=>aw.2 ⟨J,rfl⟩
theorem Cb{n:Nat}{p q:Int}(D:20000<=n)(m:-9223372036854775808<=p)(C:p<=9223372036854775807)(h1:-9223372036854775808<=q)(j:q<=9223372036854775807)(E:q≠0):Ok (lM n p q) fun z=>Qx z.1 (Rat.divInt p q) 3/\z.2=0:=by
 unfold lM;refine Ok.bd (xI (by omega) m C) fun a ha=>Ok.bd (xI (by omega) h1 j) fun b hb=>?_
 exact Ok.bd (Gy D (k:=3) (by omega) ha hb (fX ha m C) (fX hb h1 j) E) fun z I=>aw.2 I
theorem Ax(a b:Rat):Rat.divInt (a.num*b.num) ((a.den:Int)*(b.den:Int))=a*b:=by
 rw[<-Rat.divInt_mul_divInt,Rat.num_divInt_den,Rat.num_divInt_den]
theorem zG(a b:Rat):Rat.divInt (a.num*(b.den:Int)+b.num*(a.den:Int)) ((a.den:Int)*(b.den:Int))=a+b:=by
 have h1:=den_pos a;have h2:=den_pos b;rw[<-Rat.divInt_add_divInt _ _ (by omega) (by omega),Rat.num_divInt_den,Rat.num_divInt_den]
theorem oa{n:Nat}{x y:aj}{a b:Rat}{j k:Nat}(C:20000<=n)(I:j+k<=250)(hx:Qx x a j)(J:Qx y b k):Ok (eE n x y) fun z=>Qx z (a*b) (j+k):=by
 unfold eE;refine Ok.bd (fq C (by omega) hx) fun u hu=>Ok.bd (fq C (by omega) J) fun v m=>?_
 have M:=hu.nl;have N:=m.nl;have d1:=hu.dl;have d2:=m.dl;refine Ok.bd (mA (by omega) hu.num m.num (by omega) (by omega)) fun p hp=>Ok.bd (mA (by omega) hu.den m.den (by omega) (by omega)) fun q D=>?_
 have h1:=den_pos a;have h2:=den_pos b;have O:(0:Int)<(a.den:Int)*(b.den:Int):=Int.mul_pos h1 h2;refine Ok.bd (lq C I hp D (fg hu.num m.num hp M N) (fg hu.den m.den D d1 d2) (by omega)) fun z E=>aw.2 ?_
 rw[Ax]at E;exact E
theorem sQ{n:Nat}{x y:aj}{a b:Rat}{j k:Nat}(D:20000<=n)(J:j+k+1<=250)(hx:Qx x a j)(M:Qx y b k):Ok (ir n x y) fun z=>Qx z (a+b) (j+k+1):=by
 unfold ir;refine Ok.bd (fq D (by omega) hx) fun u hu=>Ok.bd (fq D (by omega) M) fun v m=>?_
 have N:=hu.nl;have O:=m.nl;have d1:=hu.dl;have d2:=m.dl;refine Ok.bd (mA (by omega) hu.num m.den (by omega) (by omega)) fun p hp=>Ok.bd (mA (by omega) m.num hu.den (by omega) (by omega)) fun p' C=>?_
 have U:=fg hu.num m.den hp N d2;have T:=fg m.num hu.den C O d1;refine Ok.bd (Am (by omega) hp C (by omega) (by omega)) fun s hs=>Ok.bd (mA (by omega) hu.den m.den (by omega) (by omega)) fun q E=>?_
 have ls:=wM hp C hs (k:=j+k) (by omega) (by omega);have Y:=fg hu.den m.den E d1 d2;have h1:=den_pos a;have h2:=den_pos b;have h3:(0:Int)<(a.den:Int)*(b.den:Int):=Int.mul_pos h1 h2;refine Ok.bd (lq D J hs E (by omega) (by omega) (by omega)) fun z I=>aw.2 ?_
 rw[zG]at I;exact I
end Go.L

