import Derived.Test.YtfclmnpffhbcpaaGreatPldL01h
import Derived.Test.YtfclmnpffhbcpaaGreatPl6Plds
set_option linter.all false
namespace Go.L
open Go Go.Eng
theorem py{g:List Int}(h:Dig g)(j:g.length<=2):sA g.reverse=vl g/\0<=vl g/\vl g<1000000000000000000:=by
 match g,j with
 |[],_=>exact⟨rfl,by decide,by decide⟩
 |[d],_=>
  have q:=gz.1 h;have e:vl [d]=d:=iQ d;rw[e];refine⟨?_,by omega,by omega⟩;simp only[sA,List.reverse_cons,List.reverse_nil,List.nil_append,List.foldl,IntKind.wrap_u64];omega
 |[d,e],_=>
  have h1:=jy.1 h;have z:=gz.1 h1.2;have e1:vl [d,e]=d+1000000000*e:=by show d+1000000000*vl [e]=_;rw[iQ]
  rw[e1];refine⟨?_,by omega,by omega⟩;simp only[sA,List.reverse_cons,List.reverse_nil,List.nil_append,List.cons_append,List.foldl,IntKind.wrap_u64];omega
theorem rB{n:Nat}{g:List Int}(h:Dig g)(q:g.length<=900):∃r,je n g=some r/\(r.2=true->g.length<=2/\r.1=vl g)/\(r.2=false->2<g.length):=by
 unfold je;rw[decide_eq_true (by omega:g.length<=1099511627776)];refine⟨_,rfl,?_⟩;by_cases j:g.length>2
 ·rw[decide_eq_true j];exact⟨fun h=>(by cases h),fun _=>j⟩
 ·rw[decide_eq_false j];exact⟨fun _=>⟨by omega,(py h (by omega)).1⟩,fun h=>(by cases h)⟩
theorem BX{n:Nat}{a b:List Int}(N:1000<=n)(C:Can a)(D:Can b)(I:b≠[])(la:a.length<=300)(lb:b.length<=300):Ok (jc n a b) fun r=>Can r.1/\Can r.2/\vl r.2<vl b/\vl r.1*vl b+vl r.2=vl a:=by
 unfold jc;have R:=kJ D I;have j:=bI C.dig;rw[nB C D (by omega) (by omega)];show Ok (cdO _ _ _) _;refine Ok.cd (fun h=>?_) (fun h=>?_)
 ·have S:vl a<vl b:=by
   have:=dcT h;rcases dS (vl a-vl b)with⟨g1,g2⟩|⟨g1,g2⟩|⟨g1,g2⟩<;>omega
  exact aC.2 ⟨trivial,C,S,by show 0*vl b+vl a=vl a;omega⟩
 ·have hle:vl b<=vl a:=by
   have:=dcF h;rcases dS (vl a-vl b)with⟨g1,g2⟩|⟨g1,g2⟩|⟨g1,g2⟩<;>omega
  obtain⟨ra,ea,a1,a2⟩:=rB (n:=n) C.dig (by omega);obtain⟨rb,eb,b1,b2⟩:=rB (n:=n) D.dig (by omega);have b3:0<b.length:=List.length_pos_iff.2 I;have rest:Ok (cdO (((b.length:Int):Int)==1) (gdO (inR 0 b.length) (bdO (gj n a (gt b 0)) fun v17=>bdO (dL n (af .u64 v17.2)) fun T=>some ((v17.1,T)))) (bdO (jX n a b) fun v21=>some ((v21.1,v21.2))))
    fun r=>Can r.1/\Can r.2/\vl r.2<vl b/\vl r.1*vl b+vl r.2=vl a:=by
   refine Ok.cd (fun h=>?_) (fun h=>?_)
   ·have hl:b.length=1:=by simp at h;omega
    obtain⟨d,rfl⟩:∃d,b=[d]:=by
     match b,hl with
     |[d],_=>exact⟨d,rfl⟩
    have hd:=gz.1 D.dig;have b4:d≠0:=D.2.1 rfl;refine Ok.gd rfl ?_;have e:gt [d] 0=d:=rfl;rw[e];refine Ok.bd (pC C.dig (by omega) (by omega) (by omega)) ?_;rintro⟨q,r⟩ ⟨O,E,U⟩;simp only at O E U;dsimp only;rw[aO E.1 (by omega)];refine Ok.bd (mD N E.1 (by omega)) ?_;rintro z ⟨z1,z2,z3⟩;refine aC.2 ⟨O,z1,?_,?_⟩
    ·simp only[z2,iQ];exact E.2
    ·simp only[z2,iQ];exact U
   ·have hl:b.length≠1:=by simp at h;omega
    exact Ok.bd (EW N C D (by omega) la lb hle) fun r hr=>aC.2 hr
  refine Ok.bde ea (Ok.bde eb ?_);refine Ok.cd (fun h=>?_) (fun h=>rest);refine Ok.cd (fun h'=>?_) (fun h'=>rest);obtain⟨Y,Z⟩:=a1 h;obtain⟨a6,a7⟩:=b1 h';have wa:=py C.dig Y;have wb:=py D.dig a6;rw[Z,a7];refine Ok.gd (by rw[decide_eq_false (by omega)];rfl) ?_;rw[(qi j).1,(qi j).2];have hm:=Int.emod_add_mul_ediv (vl a) (vl b);have a8:=Int.emod_nonneg (vl a) (by omega:vl b≠0);have b0:=Int.emod_lt_of_pos (vl a) R;have J:0<=vl a / vl b:=Int.ediv_nonneg j (by omega);have b5:vl a / vl b<=vl a:=Int.ediv_le_self _ j;rw[aO J (by omega)];refine Ok.bd (mD N J (by omega)) ?_;rintro q ⟨O,E,U⟩;refine Ok.bd (mD N a8 (by omega)) ?_;rintro r ⟨r1,r2,r3⟩;refine aC.2 ⟨O,r1,?_,?_⟩
  ·simp only[r2];exact b0
  ·simp only[E,r2];rw[Int.mul_comm];omega
theorem sH(x y:Nat):Nat.gcd y (x%y)=Nat.gcd x y:=by rw[Nat.gcd_comm x y,Nat.gcd_rec y x,Nat.gcd_comm]
theorem yi{n:Nat}{s:List Int}(h:s.length<=900):dq n s=some s:=by
 unfold dq;rw[decide_eq_true (by omega:(0+s.length)*4<=140737488355328),decide_eq_true (by omega:0+s.length<=4611686018427387904)];rfl
theorem yc{n:Nat}{x y:aj}{v w:Int}(hn:5000<=n)(S:isI x.Negative x.Groups v)(j:isI y.Negative y.Groups w)(lx:x.Groups.length<=60)(ly:y.Groups.length<=60):Ok (jR n x y) fun z=>isI z.Negative z.Groups (gZ v w):=by
 unfold jR;refine Ok.bde (iS (by omega) (by omega) S) (Ok.bde (iS (by omega) (by omega) j) ?_);have ex:v.natAbs=(vl x.Groups).toNat:=by have:=iJ S;omega
 have ey:w.natAbs=(vl y.Groups).toNat:=by have:=iJ j;omega
 have e0:gZ v w=((Nat.gcd (vl x.Groups).toNat (vl y.Groups).toNat:Nat):Int):=by unfold gZ;rw[ex,ey]
 refine Ok.bd (R:=fun o=>match o with|.inl a=>Can a/\a.length<=60/\vl a=gZ v w|.inr z=>isI z.Negative z.Groups (gZ v w)) ?_ ?_
 ·refine ee (fun p:List Int×List Int=>Can p.1/\Can p.2/\p.1.length<=60/\p.2.length<=60/\((Nat.gcd (vl p.1).toNat (vl p.2).toNat:Nat):Int)=gZ v w) (fun p=>gm (vl p.1).toNat (vl p.2).toNat) ?_ n _ ⟨S.1,j.1,lx,ly,e0.symm⟩ ?_
  ·rintro again ⟨a,b⟩ ⟨N,D,la,lb,T⟩ ih;simp only at N D la lb T;dsimp only;have Y:=bI N.dig;refine Ok.cd (fun h=>?_) (fun h=>?_)
   ·have C:b≠[]:=by rintro rfl;simp at h
    have b9:=kJ D C;obtain⟨ra,ea,a1,a2⟩:=rB (n:=n) N.dig (by omega);obtain⟨rb,eb,b1,b2⟩:=rB (n:=n) D.dig (by omega);have rest:Ok (bdO (jc n a b) fun Z=>again (b,Z.2)) fun o=>match o with|.inl a=>Can a/\a.length<=60/\vl a=gZ v w|.inr z=>isI z.Negative z.Groups (gZ v w):=by
     refine Ok.bd (BX (by omega) N D C (by omega) (by omega)) ?_;rintro⟨q,r⟩ ⟨q1,r1,r2,r3⟩;simp only at q1 r1 r2 r3;have a6:=bI r1.dig;have er:vl r=vl a%vl b:=by
      have h1:(vl q*vl b+vl r)%vl b=vl r%vl b:=by rw[Int.add_comm,Int.add_mul_emod_self_right]
      rw[<-r3,h1,Int.emod_eq_of_lt a6 r2]
     have O:(vl r).toNat=(vl a).toNat%(vl b).toNat:=by
      rw[er,Int.toNat_emod Y (by omega)]
     have a7:r.length<=60:=by
      by_cases hl:r.length<=60
      ·exact hl
      ·have:=de D.dig r1 (by omega);omega
     exact ih _ ⟨D,r1,lb,a7,by simp only;rw[O,sH];exact T⟩ (by simp only;rw[O];exact xb (by omega))
    refine Ok.bde ea (Ok.bde eb ?_);refine Ok.cd (fun h1=>?_) (fun h1=>rest);refine Ok.cd (fun E=>?_) (fun E=>rest);obtain⟨a8,b0⟩:=a1 h1;obtain⟨b3,b4⟩:=b1 E;have wa:=py N.dig a8;have wb:=py D.dig b3;rw[b0,b4];refine Ok.bd (R:=fun m=>m=gZ v w/\m<1000000000000000000) ?_ ?_
    ·refine ee (fun p:Int×Int=>0<=p.1/\p.1<1000000000000000000/\0<=p.2/\p.2<1000000000000000000/\((Nat.gcd p.1.toNat p.2.toNat:Nat):Int)=gZ v w) (fun p=>gm p.1.toNat p.2.toNat) ?_ n _ ⟨wa.2.1,wa.2.2,wb.2.1,wb.2.2,T⟩ ?_
     ·rintro U ⟨c,d⟩ ⟨c1,c2,d1,d2,I⟩ b5;simp only at c1 c2 d1 d2 I;dsimp only;refine Ok.cd (fun h=>?_) (fun h=>?_)
      ·have hd:=dcT h;refine Ok.gd (by rw[decide_eq_false (by omega)];rfl) ?_;rw[(qi c1).2];have b6:=Int.emod_nonneg c (by omega:d≠0);have b7:=Int.emod_lt_of_pos c (by omega:0<d);have em:(c%d).toNat=c.toNat%d.toNat:=Int.toNat_emod c1 d1;exact b5 _ ⟨d1,d2,b6,by simp only;omega,by simp only;rw[em,sH];exact I⟩ (by simp only;rw[em];exact xb (by omega))
      ·have hd:=dcF h;have:d=0:=by omega
       subst this;refine aC.2 ⟨?_,c2⟩;rw[<-I];simp[Nat.gcd_zero_right];omega
     ·have:gm (vl a).toNat (vl b).toNat<=120+3:=vt (by
       have h1:(vl a).toNat<2^60:=by omega
       have E:(vl b).toNat<2^60:=by omega
       have J:(vl a).toNat*(vl b).toNat<2^60*2^60:=Nat.mul_lt_mul'' h1 E;rw[<-Nat.pow_add]at J;exact J)
      simp only;omega
    ·rintro m ⟨hm,b7⟩;have b8:0<=m:=by rw[hm];exact Int.natCast_nonneg _
     refine Ok.bd (mD (by omega) b8 (by omega)) ?_;rintro z ⟨z1,z2,z3⟩;refine Ok.bd (eD (by omega) false z1.dig (by omega)) fun y j=>aC.2 ?_
     rw[z2,hm]at j;exact j
   ·have C:b=[]:=by
     cases b with
     |nil=>rfl
     |cons=>exact absurd (dcF h) (by simp)
    subst C;refine aC.2 ⟨N,la,?_⟩;rw[<-T];show vl a=((Nat.gcd (vl a).toNat 0:Nat):Int);rw[Nat.gcd_zero_right];omega
  ·obtain⟨K,hK⟩:∃K:Nat,K=60:=⟨_,rfl⟩;have h1:=zI S.1.dig (k:=K) (by omega);have E:=zI j.1.dig (k:=K) (by omega);have J:=Nat.mul_lt_mul'' h1 E;rw[<-Nat.pow_add]at J;have:=vt J;simp only;omega
 ·rintro(a|z) h
  ·obtain⟨h1,E,J⟩:=h;refine Ok.bde (yi (by omega)) ?_;refine Ok.bd (eD (by omega) false h1.dig (by omega)) fun y j=>aC.2 ?_
   rw[J]at j;exact j
  ·exact aC.2 h
end Go.L


set_option linter.all false
namespace Go.L
open Go Go.Eng
theorem oZ{n:Nat}{x:aj}{v:Int}(q:1000<=n)(j:x.Groups.length<=900)(h:isI x.Negative x.Groups v):Ok (ft n x) fun z=>isI z.Negative z.Groups (-v):=by
 unfold ft;refine Ok.bde (iS q j h) (Ok.bde (yi j) ?_);refine Ok.bd (eD q _ h.1.dig j) fun z C=>aC.2 ?_
 have:-v=if (!x.Negative)=true then-vl x.Groups else vl x.Groups:=by rw[h.2.2];cases x.Negative<;>simp
 rw[this];exact C
theorem Ek{n:Nat}(a b:Int):kd n a b=some (sgn (a-b)):=by
 unfold kd;have q:(a !=a)=false:=by simp
 have z:(b !=b)=false:=by simp
 simp only[cmp_isNaN_int,bdO,q,z];rcases dS (a-b)with⟨h1,j⟩|⟨h1,j⟩|⟨h1,j⟩
 ·rw[j];rw[decide_eq_true (by omega:a<b)];rfl
 ·rw[j];rw[decide_eq_false (by omega:¬a<b),decide_eq_false (by omega:¬a>b)];rfl
 ·rw[j];rw[decide_eq_false (by omega:¬a<b),decide_eq_true (by omega:a>b)];rfl
theorem ur{n:Nat}{x y:aj}{v w:Int}(q:1000<=n)(j:isI x.Negative x.Groups v)(z:isI y.Negative y.Groups w)(D:x.Groups.length<=400)(E:y.Groups.length<=400):kj n x y=some (sgn (v-w)):=by
 apply Ok.eq;unfold kj;refine Ok.bde (lV q (by omega) j) (Ok.bde (lV q (by omega) z) ?_);have R:=dS v;have hw:=dS w;have I:=dS (v-w);refine Ok.cd (fun h=>?_) (fun h=>?_)
 ·have J:sgn v≠sgn w:=by simpa using h
  refine Ok.bde (Ek _ _) (aC.2 ?_);have N:=dS (sgn v-sgn w);omega
 ·have heq:sgn v=sgn w:=by simpa using h
  refine Ok.bde (iS q (by omega) j) (Ok.bde (iS q (by omega) z) (Ok.bde (nB j.1 z.1 D E) ?_));have S:=iJ j;have T:=iJ z;have N:=dS (vl x.Groups-vl y.Groups);have C:=j.2.2;have U:=bI j.1.dig;refine Ok.cd (fun h=>?_) (fun h=>?_)
  ·rw[h,if_pos rfl]at C;have O:=kJ j.1 (j.2.1 h);refine aC.2 ?_;rw[wrap64_in (by omega) (by omega)];omega
  ·rw[h]at C;simp only[Bool.false_eq_true,if_false]at C;exact aC.2 (by omega)
theorem Dg{n:Nat}{x y:aj}{v w:Int}(C:1000<=n)(S:isI x.Negative x.Groups v)(E:isI y.Negative y.Groups w)(hw:w≠0)(lx:x.Groups.length<=300)(ly:y.Groups.length<=300):
  Ok (eK n x y) fun z=>∃q r,isI z.1.Negative z.1.Groups q/\isI z.2.1.Negative z.2.1.Groups r/\v=q*w+r/\((0<=r/\r<w)\/(w<r/\r<=0))/\z.2.2=0:=by
 unfold eK;refine Ok.bde (iS C (by omega) S) (Ok.bde (iS C (by omega) E) ?_);have J:y.Groups≠[]:=by
  intro h;have:=E.2.2;rw[h]at this;have e:vl ([]:List Int)=0:=rfl;rw[e]at this;apply hw;rw[this];split<;>rfl
 refine Ok.cd (fun h=>absurd h (by simp[J])) (fun h=>?_);refine Ok.bd (BX C S.1 E.1 J lx ly) ?_;rintro⟨c,d⟩ ⟨c1,d1,d2,d3⟩;simp only at c1 d1 d2 d3;dsimp only;have hyp:=kJ E.1 J;have cp:=bI c1.dig;have dp:=bI d1.dig;have xp:=bI S.1.dig;have ld:d.length<=300:=by
  by_cases N:d.length<=300
  ·exact N
  ·have:=de E.1.dig d1 (by omega);omega
 have lc:c.length<=300:=by
  by_cases N:c.length<=300
  ·exact N
  ·have:=de S.1.dig c1 (by omega);have:vl c*1<=vl c*vl y.Groups:=mlT (by omega) cp;omega
 refine Ok.bde (yi (by omega)) ?_;have U:=S.2.2;have R:=E.2.2;refine Ok.cd (fun h=>?_) (fun h=>?_)
 ·have O:d≠[]:=by rintro rfl;simp at h
  have a6:=kJ d1 O;refine Ok.cd (fun h=>?_) (fun h=>?_)
  ·refine Ok.bd (wZ C c1.dig (gz.2 (by omega)) (by omega) (by simp)) ?_;rintro c2 ⟨e1,e2⟩;rw[iQ]at e2;have Y:d.length<=y.Groups.length:=by
    by_cases N:d.length<=y.Groups.length
    ·exact N
    ·have:=de E.1.dig d1 (by omega);omega
   refine Ok.bd (nX C E.1.dig d1.dig (by omega) Y (by omega)) ?_;rintro d4 ⟨f1,f2⟩;have Z:c2.length<=900:=by
    by_cases N:c2.length<=301
    ·omega
    ·have h1:=de (mc.2 ⟨c1.dig,gz.2 (by omega:(0:Int)<=1/\(1:Int)<1000000000)⟩) e1 (by simp;omega);rw[mQ,iQ]at h1;have:=iv c.length;omega
   have a1:d4.length<=900:=by
    by_cases N:d4.length<=300
    ·omega
    ·have:=de E.1.dig f1 (by omega);omega
   refine Ok.bd (eD C true e1.dig Z) fun z T=>Ok.bd (eD C y.Negative f1.dig a1) fun z' D=>aC.2 ⟨_,_,T,D,?_,?_,rfl⟩
   ·rw[U,R,e2,f2,<-d3];cases I:x.Negative<;>cases j:y.Negative<;>simp[I,j]at h ⊢<;>grind
   ·rw[R,f2];cases j:y.Negative<;>simp<;>omega
  ·refine Ok.bd (eD C false c1.dig (by omega)) fun z T=>Ok.bd (eD C y.Negative d1.dig (by omega)) fun z' D=>aC.2 ⟨_,_,T,D,?_,?_,rfl⟩
   ·rw[U,R,<-d3];cases I:x.Negative<;>cases j:y.Negative<;>simp[I,j]at h ⊢<;>grind
   ·rw[R];cases j:y.Negative<;>simp<;>omega
 ·have O:d=[]:=by
   cases d with
   |nil=>rfl
   |cons=>exact absurd (dcF h) (by simp)
  subst O;have e0:vl ([]:List Int)=0:=rfl;refine Ok.bd (eD C _ c1.dig (by omega)) fun z T=>Ok.bd (eD C y.Negative oO (by simp)) fun z' D=>aC.2 ⟨_,_,T,D,?_,?_,rfl⟩
  ·rw[U,R,<-d3];rw[e0];cases I:x.Negative<;>cases j:y.Negative<;>simp<;>grind
  ·rw[R];rw[e0];cases j:y.Negative<;>simp<;>omega
theorem kT{n:Nat}{x y:aj}{k w:Int}(C:1000<=n)(D:isI x.Negative x.Groups (k*w))(E:isI y.Negative y.Groups w)(hw:w≠0)(I:x.Groups.length<=300)(J:y.Groups.length<=300):Ok (eK n x y) fun z=>isI z.1.Negative z.1.Groups k:=by
 refine(Dg C D E hw I J).mono ?_;rintro z ⟨q,r,h1,N,O,R,S⟩;have e:(k-q)*w=r:=by grind
 have:k-q=0:=by
  by_cases h:k-q=0
  ·exact h
  ·exfalso;by_cases hp:0<w
   ·by_cases j:1<=k-q
    ·have:1*w<=(k-q)*w:=mrT j (by omega);omega
    ·have:(k-q)*w<=(-1)*w:=mrT (by omega) (by omega);omega
   ·by_cases j:1<=k-q
    ·have:1*(-w)<=(k-q)*(-w):=mrT j (by omega);have e2:(k-q)*(-w)=-r:=by rw[Int.mul_neg,e]
     omega
    ·have:(k-q)*(-w)<=(-1)*(-w):=mrT (by omega) (by omega);have e2:(k-q)*(-w)=-r:=by rw[Int.mul_neg,e]
     omega
 rw[(by omega:k=q)];exact h1
end Go.L


set_option linter.all false
namespace Go.L
open Go Go.Eng
def Qx(x:an)(r:Rat)(k:Nat):Prop:=QL x.Num.Negative x.Num.Groups x.Den.Negative x.Den.Groups r k
theorem Ct{n:Nat}{x y:aj}{p q:Int}{k:Nat}(Y:5000<=n)(hk:k<=60)(D:isI x.Negative x.Groups p)(E:isI y.Negative y.Groups q)(Z:x.Groups.length<=k)(ly:y.Groups.length<=k)(N:0<q):
  Ok (bdO (jR n x y) fun C=>bdO (eK n x C) fun I=>bdO (eK n y C) fun J=>some (an.mk I.1 J.1)) fun z=>Qx z (Rat.divInt p q) k:=by
 have O:=zJ (v:=p) (by omega:q≠0);refine Ok.bd (yc Y D E (by omega) (by omega)) fun g j=>?_
 have bq:=kp E ly;have bp:=kp D Z;have R:=pN p q;have S:=ri p q;have ap:=mv p _ O R;have aq:=mv q _ O S;have lg:g.Groups.length<=k:=ju j (by omega) (by
  have:1*gZ p q<=(q / gZ p q)*gZ p q:=mrT (by
   by_cases h:1<=q / gZ p q
   ·exact h
   ·have:(q / gZ p q)*gZ p q<=0*gZ p q:=mrT (by omega) (by omega);omega) (by omega)
  omega)
 refine Ok.bd (kT (k:=p / gZ p q) (by omega) (by rw[<-R];exact D) j (by omega) (by omega) (by omega)) fun a T=>?_
 refine Ok.bd (kT (k:=q / gZ p q) (by omega) (by rw[<-S];exact E) j (by omega) (by omega) (by omega)) fun b U=>aC.2 ?_
 exact⟨by rw[np N];exact T,by rw[pD N];exact U,ju T (by omega) (by omega),ju U (by omega) (by omega)⟩
theorem nH{p q:Bool}{g h:List Int}{v:Int}(a:isI p g v)(b:isI q h (-v)){k:Nat}(hk:g.length<=k):h.length<=k:=by
 have:=kp a hk;exact ju b (by omega) (by omega)
theorem nq{n:Nat}{x y:aj}{p q:Int}{k:Nat}(I:5000<=n)(hk:k<=60)(E:isI x.Negative x.Groups p)(D:isI y.Negative y.Groups q)(J:x.Groups.length<=k)(N:y.Groups.length<=k)(O:q≠0):
  Ok (fA n x y) fun z=>Qx z (Rat.divInt p q) k:=by
 unfold fA;refine Ok.bde (lV (by omega) (by omega) D) ?_;have hs:=dS q;refine Ok.cd (fun h=>?_) (fun h=>?_)
 ·have:=dcT h;refine Ok.bd (oZ (by omega) (by omega) E) fun R j=>Ok.bd (oZ (by omega) (by omega) D) fun S C=>?_
  rw[<-uD];exact Ct I hk j C (nH E j J) (nH D C N) (by omega)
 ·have:=dcF h;exact Ct I hk E D J N (by omega)
theorem qW{n:Nat}{x:an}{r:Rat}{k:Nat}(q:5000<=n)(hk:k<=60)(h:Qx x r k):jD n x=some true:=by
 apply Ok.eq;unfold jD;have hp:=den_pos r;have z:=h.nl;have C:=h.dl;refine Ok.bde (mT (by omega) (by omega) h.num) (Ok.cd (fun h=>by cases h) fun _=>?_);refine Ok.bde (mT (by omega) (by omega) h.den) (Ok.cd (fun h=>by cases h) fun _=>?_);refine Ok.bde (lV (by omega) (by omega) h.den) ?_;rw[pP hp];refine Ok.cd (fun h=>absurd h (by decide)) fun _=>?_
 refine Ok.bd (yc q h.num h.den (by omega) (by omega)) fun g j=>?_
 rw[EA]at j;refine Ok.bd (xo (by omega) (by decide) (by decide)) fun one h1=>?_
 have l1:=jm h1 (by decide) (by decide);have D:=jm j (by decide) (by decide);refine Ok.bde (ur (by omega) j h1 (by omega) (by omega)) (aC.2 rfl)
theorem CY{n:Nat}{x:an}{r:Rat}{k:Nat}(J:5000<=n)(hk:k<=60)(h:Qx x r k):Ok (ka n x) fun z=>Qx z r k:=by
 unfold ka;have D:=h.nl;have E:=h.dl;refine Ok.bd (oZ (by omega) (by omega) h.num) fun a j=>?_
 have I:=nH h.num j h.nl;refine Ok.bd (oZ (by omega) (by omega) j) fun b q=>?_
 have lb:=nH j q I;refine Ok.bd (oZ (by omega) (by omega) h.den) fun c hc=>?_
 have lc:=nH h.den hc h.dl;refine Ok.bd (oZ (by omega) (by omega) hc) fun d C=>aC.2 ?_
 have ld:=nH hc C lc;rw[Int.neg_neg]at q C;exact⟨q,C,lb,ld⟩
theorem gE{n:Nat}{x:an}{r:Rat}{k:Nat}(j:5000<=n)(hk:k<=60)(h:Qx x r k):Ok (dz n x) fun z=>Qx z r k:=by
 unfold dz;refine Ok.bde (qW j hk h) (Ok.cd (fun _=>Ok.bd (CY j hk h) fun z q=>aC.2 q) fun h=>by cases h)
theorem sV{n:Nat}{v:Int}(E:5000<=n)(j:-9223372036854775808<=v)(q:v<=9223372036854775807):Ok (jC n v) fun z=>Qx z (Rat.divInt v 1) 3:=by
 unfold jC;refine Ok.bd (xo (by omega) j q) fun a C=>Ok.bd (xo (by omega) (by decide) (by decide)) fun b D=>aC.2 ?_
 obtain⟨e1,e2⟩:=yK v;exact⟨by rw[e1];exact C,by rw[e2];exact D,jm C j q,jm D (by decide) (by decide)⟩
theorem Fb{n:Nat}{x y:aj}{p q:Int}{k:Nat}(D:5000<=n)(hk:k<=60)(C:isI x.Negative x.Groups p)(j:isI y.Negative y.Groups q)(E:x.Groups.length<=k)(I:y.Groups.length<=k)(J:q≠0):
  Ok (mC n x y) fun z=>Qx z.1 (Rat.divInt p q) k/\z.2=0:=by
 unfold mC fY;refine Ok.bde (b:=x) (by rw[mT (by omega) (by omega) C];rfl) (Ok.bde (b:=y) (by rw[mT (by omega) (by omega) j];rfl) ?_);refine Ok.bde (lV (by omega) (by omega) j) ?_;have hs:=dS q;refine Ok.cd (fun h=>?_) (fun h=>?_)
 ·have:sgn q=0:=by simpa using h
  omega
 ·exact Ok.bd (nq D hk C j E I J) fun z N=>aC.2 ⟨N,rfl⟩
theorem DR{n:Nat}{p q:Int}(J:5000<=n)(C:-9223372036854775808<=p)(D:p<=9223372036854775807)(h1:-9223372036854775808<=q)(j:q<=9223372036854775807)(N:q≠0):Ok (mr n p q) fun z=>Qx z.1 (Rat.divInt p q) 3/\z.2=0:=by
 unfold mr;refine Ok.bd (xo (by omega) C D) fun a E=>Ok.bd (xo (by omega) h1 j) fun b I=>?_
 exact Ok.bd (Fb J (k:=3) (by omega) E I (jm E C D) (jm I h1 j) N) fun z O=>aC.2 O
theorem Fi(a b:Rat):Rat.divInt (a.num*b.num) ((a.den:Int)*(b.den:Int))=a*b:=by
 rw[<-Rat.divInt_mul_divInt,Rat.num_divInt_den,Rat.num_divInt_den]
theorem zg(a b:Rat):Rat.divInt (a.num*(b.den:Int)+b.num*(a.den:Int)) ((a.den:Int)*(b.den:Int))=a+b:=by
 have h1:=den_pos a;have j:=den_pos b;rw[<-Rat.divInt_add_divInt _ _ (by omega) (by omega),Rat.num_divInt_den,Rat.num_divInt_den]
theorem Cc{n:Nat}{x y:an}{a b:Rat}{j k:Nat}(D:5000<=n)(hk:j+k<=60)(J:Qx x a j)(N:Qx y b k):Ok (lq n x y) fun z=>Qx z (a*b) (j+k):=by
 unfold lq;refine Ok.bd (gE D (by omega) J) fun u hu=>Ok.bd (gE D (by omega) N) fun v C=>?_
 have O:=hu.nl;have n2:=C.nl;have d1:=hu.dl;have d2:=C.dl;refine Ok.bd (oz (by omega) hu.num C.num (by omega) (by omega)) fun p hp=>Ok.bd (oz (by omega) hu.den C.den (by omega) (by omega)) fun q E=>?_
 have h1:=den_pos a;have R:=den_pos b;have S:(0:Int)<(a.den:Int)*(b.den:Int):=Int.mul_pos h1 R;refine Ok.bd (nq D hk hp E (ik hu.num C.num hp O n2) (ik hu.den C.den E d1 d2) (by omega)) fun z I=>aC.2 ?_
 rw[Fi]at I;exact I
theorem uY{n:Nat}{x y:an}{a b:Rat}{j k:Nat}(E:5000<=n)(hk:j+k+1<=60)(N:Qx x a j)(O:Qx y b k):Ok (lE n x y) fun z=>Qx z (a+b) (j+k+1):=by
 unfold lE;refine Ok.bd (gE E (by omega) N) fun u hu=>Ok.bd (gE E (by omega) O) fun v C=>?_
 have R:=hu.nl;have n2:=C.nl;have d1:=hu.dl;have d2:=C.dl;refine Ok.bd (oz (by omega) hu.num C.den (by omega) (by omega)) fun p hp=>Ok.bd (oz (by omega) C.num hu.den (by omega) (by omega)) fun U D=>?_
 have Y:=ik hu.num C.den hp R d2;have S:=ik C.num hu.den D n2 d1;refine Ok.bd (zl (by omega) hp D (by omega) (by omega)) fun s hs=>Ok.bd (oz (by omega) hu.den C.den (by omega) (by omega)) fun q I=>?_
 have ls:=wL hp D hs (k:=j+k) (by omega) (by omega);have Z:=ik hu.den C.den I d1 d2;have h1:=den_pos a;have T:=den_pos b;have h3:(0:Int)<(a.den:Int)*(b.den:Int):=Int.mul_pos h1 T;refine Ok.bd (nq E hk hs I (by omega) (by omega) (by omega)) fun z J=>aC.2 ?_
 rw[zg]at J;exact J
end Go.L

