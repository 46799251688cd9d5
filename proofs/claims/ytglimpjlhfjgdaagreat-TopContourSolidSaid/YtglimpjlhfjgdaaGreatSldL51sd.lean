import Derived.Test.YtglimpjlhfjgdaaGreatSldL51sc
set_option linter.all false
namespace Go.L
open Go Go.Eng
theorem Hs{Z:List Int}{level:Int}{e:K2}(h:gt Z e.e0≠gt Z e.e1):crE Z level e*((2*(gt Z e.e1-gt Z e.e0):Int):Rat)=((level-2*gt Z e.e0:Int):Rat):=by
 unfold crE;have j:2*(gt Z e.e1-gt Z e.e0)≠0:=by omega
 generalize 2*(gt Z e.e1-gt Z e.e0)=D at*;generalize level-2*gt Z e.e0=A;rw[<-jM D,<-jM A,Rat.divInt_mul_divInt,Int.mul_comm D 1,Rat.divInt_mul_right j]
theorem B9{Z:List Int}{level:Int}{e:K2}(q:level.tmod 2≠0)(j:abv Z level e.e0≠abv Z level e.e1):0<crE Z level e/\crE Z level e<1:=by
 have m:gt Z e.e0≠gt Z e.e1:=fun h=>j (by unfold abv;rw[h])
 have I:=Hs (level:=level) m;have J:2*gt Z e.e0≠level:=fun h=>q (by rw[<-h];exact Int.mul_tmod_right 2 _)
 have M:2*gt Z e.e1≠level:=fun h=>q (by rw[<-h];exact Int.mul_tmod_right 2 _)
 unfold abv at j;generalize crE Z level e=r at*;have two:(2*gt Z e.e0>level/\2*gt Z e.e1<level)\/(2*gt Z e.e0<level/\2*gt Z e.e1>level):=by
  by_cases p:2*gt Z e.e0>level<;>by_cases h1:2*gt Z e.e1>level<;>simp[p,h1]at j<;>omega
 have z:((2*(gt Z e.e1-gt Z e.e0):Int):Rat)=((level-2*gt Z e.e0:Int):Rat)+((2*gt Z e.e1-level:Int):Rat):=by rw[<-Rat.intCast_add];congr 1;omega
 generalize ((2*(gt Z e.e1-gt Z e.e0):Int):Rat)=D at*;rcases two with⟨p,h1⟩|⟨p,h1⟩
 ·have a:=qX (v:=level-2*gt Z e.e0) (by omega);have b:=qX (v:=2*gt Z e.e1-level) (by omega);generalize ((level-2*gt Z e.e0:Int):Rat)=A at*;generalize ((2*gt Z e.e1-level:Int):Rat)=C at*;have E:D<0:=by grind
  constructor
  ·apply Classical.byContradiction;intro k;have:0<=(-r)*(-D):=Rat.mul_nonneg (by grind) (by grind);grind
  ·apply Classical.byContradiction;intro k;have:0<=(r-1)*(-D):=Rat.mul_nonneg (by grind) (by grind);grind
 ·have a:=oI (v:=level-2*gt Z e.e0) (by omega);have b:=oI (v:=2*gt Z e.e1-level) (by omega);generalize ((level-2*gt Z e.e0:Int):Rat)=A at*;generalize ((2*gt Z e.e1-level:Int):Rat)=C at*;have E:0<D:=by grind
  constructor
  ·apply Classical.byContradiction;intro k;have:0<=(-r)*D:=Rat.mul_nonneg (by grind) (by grind);grind
  ·apply Classical.byContradiction;intro k;have:0<=(r-1)*D:=Rat.mul_nonneg (by grind) (by grind);grind
def uX(w:Nat)(Z:List Int)(level:Int)(e:K2):Rat:=((e.e0.tmod (w:Int):Int):Rat)+crE Z level e*((e.e1.tmod (w:Int)-e.e0.tmod (w:Int):Int):Rat)
def uY(w:Nat)(Z:List Int)(level:Int)(e:K2):Rat:=((e.e0.tdiv (w:Int):Int):Rat)+crE Z level e*((e.e1.tdiv (w:Int)-e.e0.tdiv (w:Int):Int):Rat)
theorem DJ{w j i:Nat}(hi:i<w):(cel w j i).tmod (w:Int)=(i:Int):=by
 unfold cel;rw[Int.tmod_eq_emod_of_nonneg (by omega),<-Int.natCast_emod,Nat.mul_comm j w,Nat.mul_add_mod,Nat.mod_eq_of_lt hi]
theorem Dm{w j i:Nat}(hi:i<w):(cel w j i).tdiv (w:Int)=(j:Int):=by
 unfold cel;rw[Int.tdiv_eq_ediv_of_nonneg (by omega),<-Int.natCast_ediv,Nat.mul_comm j w,Nat.mul_add_div (by omega),Nat.div_eq_of_lt hi,Nat.add_zero]
section
variable{w:Nat}{Z:List Int}{level:Int}
theorem J3{j i j' i':Nat}(hi:i<w)(m:i'<w):uX w Z level (A2.mk (cel w j i) (cel w j' i'))=((i:Int):Rat)+crE Z level (A2.mk (cel w j i) (cel w j' i'))*(((i':Int)-(i:Int):Int):Rat)/\
  uY w Z level (A2.mk (cel w j i) (cel w j' i'))=((j:Int):Rat)+crE Z level (A2.mk (cel w j i) (cel w j' i'))*(((j':Int)-(j:Int):Int):Rat):=by
 unfold uX uY;dsimp only;rw[DJ hi,DJ m,Dm hi,Dm m];exact⟨rfl,rfl⟩
theorem Ia{a:Int}{r:Rat}(h:0<r/\r<1):Bt a ((a:Rat)+r*(((a+1:Int)-a:Int):Rat)):=by
 rw[show((a+1:Int)-a:Int)=1 by omega,Rat.intCast_one,Rat.mul_one];refine⟨by grind,?_⟩;rw[ics];grind
theorem GC{a:Int}{r:Rat}:(a:Rat)+r*((a-a:Int):Rat)=(a:Rat):=by
 rw[Int.sub_self,Rat.intCast_zero,Rat.mul_zero];grind
theorem Bt.sub{v:Int}{y:Rat}(h:Bt v y)(o:Int):Bt (v-o) (y-(o:Rat)):=by
 obtain⟨a,b⟩:=h;unfold Bt;rw[show(v-o+1:Int)=(v+1)-o by omega,Rat.intCast_sub,Rat.intCast_sub];grind
theorem EW{j i:Nat}(hi:i+1<w)(m:level.tmod 2≠0)(p:abv Z level (cel w j i)≠abv Z level (cel w j (i+1))):Bt (i:Int) (uX w Z level (A2.mk (cel w j i) (cel w j (i+1))))/\uY w Z level (A2.mk (cel w j i) (cel w j (i+1)))=((j:Int):Rat):=by
 obtain⟨e1,e2⟩:=J3 (Z:=Z) (level:=level) (j:=j) (j':=j) (show i<w by omega) hi;rw[e1,e2];refine⟨?_,GC⟩;have:=Ia (a:=(i:Int)) (B9 (Z:=Z) (e:=A2.mk (cel w j i) (cel w j (i+1))) m p);rw[show(((i+1:Nat):Int))=(i:Int)+1 by omega];exact this
theorem zM{j i i':Nat}(hi:i<w)(m:i'<w)(p:level.tmod 2≠0)(q:abv Z level (cel w j i)≠abv Z level (cel w (j+1) i')):Bt (j:Int) (uY w Z level (A2.mk (cel w j i) (cel w (j+1) i'))):=by
 obtain⟨e1,e2⟩:=J3 (Z:=Z) (level:=level) (j:=j) (j':=j+1) hi m;rw[e2];have:=Ia (a:=(j:Int)) (B9 (Z:=Z) (e:=A2.mk (cel w j i) (cel w (j+1) i')) p q);rw[show(((j+1:Nat):Int))=(j:Int)+1 by omega];exact this
def cO(w:Nat)(Z:List Int)(level:Int)(oi oj:Nat)(q:K2×K2):Int:=ctr (uX w Z level q.1-((oi:Int):Rat)) (uY w Z level q.1-((oj:Int):Rat)) (uX w Z level q.2-((oi:Int):Rat)) (uY w Z level q.2-((oj:Int):Rat))
def onO(w:Nat)(Z:List Int)(level:Int)(oi oj:Nat)(q:K2×K2):Bool:=onQ (uX w Z level q.1-((oi:Int):Rat)) (uY w Z level q.1-((oj:Int):Rat)) (uX w Z level q.2-((oi:Int):Rat)) (uY w Z level q.2-((oj:Int):Rat))
def cT(w:Nat)(Z:List Int)(level:Int)(oi oj:Nat)(t:A3 Int):Int:=match seg Z level t with|some q=>cO w Z level oi oj q|none=>0
def b2(b:Bool):Int:=if b=true then 1 else 0
theorem J1(t:A3 Int):seg Z level t=Bx (stp Z level (stp Z level (stp Z level (0,0,0,0,false) t.e0 t.e1) t.e1 t.e2) t.e2 t.e0):=rfl
theorem yl{a b:Int}(h:a<b):mn a b=a/\mx a b=b/\mn b a=a/\mx b a=b:=by
 unfold mn mx;rw[if_neg (by omega),if_pos h,if_pos h,if_neg (by omega)];exact⟨rfl,rfl,rfl,rfl⟩
theorem zT{j i:Nat}:cel w j i<cel w j (i+1)/\(0<w->cel w j i<cel w (j+1) i)/\cel w j i<cel w (j+1) (i+1):=by
 have a:=oS (w:=w) (j:=j) (i:=i);have b:=pY (w:=w) (j:=j) (i:=i);have c:=oS (w:=w) (j:=j+1) (i:=i);omega
theorem GJ{j i:Nat}:loT (cel w j i) w=A3.mk (cel w j i) (cel w j (i+1)) (cel w (j+1) (i+1)):=by
 unfold loT;have a:=oS (w:=w) (j:=j) (i:=i);have b:=pY (w:=w) (j:=j) (i:=i+1);congr 1<;>omega
theorem Ho{j i:Nat}:upT (cel w j i) w=A3.mk (cel w j i) (cel w (j+1) (i+1)) (cel w (j+1) i):=by
 unfold upT;have a:=pY (w:=w) (j:=j) (i:=i);have b:=oS (w:=w) (j:=j+1) (i:=i);congr 1<;>omega
theorem EG{j i oi oj:Nat}(hi:i+1<w)(N:level.tmod 2≠0):(cT w Z level oi oj (loT (cel w j i) w)=if j=oj/\oi<=i then b2 (abv Z level (cel w j i))-b2 (abv Z level (cel w j (i+1)))else 0)/\∀q,seg Z level (loT (cel w j i) w)=some q->onO w Z level oi oj q=false:=by
 obtain⟨l1,-,l3⟩:=zT (w:=w) (j:=j) (i:=i);have l2:cel w j (i+1)<cel w (j+1) (i+1):=(zT (w:=w) (j:=j) (i:=i+1)).2.1 (by omega);have m1:=yl l1;have m2:=yl l2;have m3:=yl l3;have O:=EW (Z:=Z) (level:=level) (j:=j) hi N;have E:=zM (Z:=Z) (level:=level) (j:=j) (i:=i+1) (i':=i+1) hi hi N;have I:=zM (Z:=Z) (level:=level) (j:=j) (i:=i) (i':=i+1) (by omega) hi N;have M:((j:Int)-(oj:Int)=0/\0<=(i:Int)-(oi:Int))↔(j=oj/\oi<=i):=by omega
 unfold cT;rw[GJ,J1];dsimp only;generalize cel w j i=A at*;generalize cel w j (i+1)=B at*;generalize cel w (j+1) (i+1)=C at*;unfold cO onO;have z:∀{m p:K2},m=A2.mk A B->abv Z level A≠abv Z level B->Bt (j:Int) (uY w Z level p)->onQ (uX w Z level m-((oi:Int):Rat)) (uY w Z level m-((oj:Int):Rat)) (uX w Z level p-((oi:Int):Rat)) (uY w Z level p-((oj:Int):Rat))=false/\
   ctr (uX w Z level m-((oi:Int):Rat)) (uY w Z level m-((oj:Int):Rat)) (uX w Z level p-((oi:Int):Rat)) (uY w Z level p-((oj:Int):Rat))=if j=oj/\oi<=i then 1 else 0:=by
  rintro m p rfl T U;obtain⟨e1,e2⟩:=O T;have:=HI (v:=(j:Int)-(oj:Int)) (ay:=uY w Z level (A2.mk A B)-((oj:Int):Rat)) (bx:=uX w Z level p-((oi:Int):Rat)) (by rw[e2,Rat.intCast_sub]) (e1.sub oi) (U.sub oj);simp only[M]at this;exact this
 have D:∀{m p:K2},p=A2.mk A B->abv Z level A≠abv Z level B->Bt (j:Int) (uY w Z level m)->onQ (uX w Z level m-((oi:Int):Rat)) (uY w Z level m-((oj:Int):Rat)) (uX w Z level p-((oi:Int):Rat)) (uY w Z level p-((oj:Int):Rat))=false/\
   ctr (uX w Z level m-((oi:Int):Rat)) (uY w Z level m-((oj:Int):Rat)) (uX w Z level p-((oi:Int):Rat)) (uY w Z level p-((oj:Int):Rat))=if j=oj/\oi<=i then-1 else 0:=by
  rintro m p rfl T U;obtain⟨e1,e2⟩:=O T;have:=GW (v:=(j:Int)-(oj:Int)) (by':=uY w Z level (A2.mk A B)-((oj:Int):Rat)) (ax:=uX w Z level m-((oi:Int):Rat)) (by rw[e2,Rat.intCast_sub]) (e1.sub oi) (U.sub oj);simp only[M]at this;exact this
 have J:∀{m p:K2},Bt (j:Int) (uY w Z level m)->Bt (j:Int) (uY w Z level p)->_:=fun {m p} h1 h2=>CZ (ax:=uX w Z level m-((oi:Int):Rat)) (bx:=uX w Z level p-((oi:Int):Rat)) (h1.sub oj) (h2.sub oj)
 cases Y:abv Z level A<;>cases hB:abv Z level B<;>cases hC:abv Z level C<;>rw[Y,hB]at O z D<;>rw[hB,hC]at E<;>rw[Y,hC]at I<;>simp only[stp,Bx,Y,hB,hC,m1,m2,m3,Bool.not_false,Bool.not_true,Bool.and_true,Bool.and_false,Bool.true_and,Bool.false_and,if_true,if_false,Bool.false_eq_true,b2,Option.some.injEq,reduceCtorEq,false_implies,implies_true,and_true,forall_eq',Int.sub_self,ite_self]
 ·exact⟨(J (I (by simp)) (E (by simp))).2,(J (I (by simp)) (E (by simp))).1⟩
 ·exact⟨(D rfl (by simp) (E (by simp))).2,(D rfl (by simp) (E (by simp))).1⟩
 ·exact⟨(D rfl (by simp) (I (by simp))).2,(D rfl (by simp) (I (by simp))).1⟩
 ·exact⟨(z rfl (by simp) (I (by simp))).2,(z rfl (by simp) (I (by simp))).1⟩
 ·exact⟨(z rfl (by simp) (E (by simp))).2,(z rfl (by simp) (E (by simp))).1⟩
 ·exact⟨(J (E (by simp)) (I (by simp))).2,(J (E (by simp)) (I (by simp))).1⟩
theorem E4{j i oi oj:Nat}(hi:i+1<w)(M:level.tmod 2≠0):cT w Z level oi oj (upT (cel w j i) w)=0/\∀q,seg Z level (upT (cel w j i) w)=some q->onO w Z level oi oj q=false:=by
 obtain⟨-,N,l3⟩:=zT (w:=w) (j:=j) (i:=i);have l2:cel w j i<cel w (j+1) i:=N (by omega);have l1:cel w (j+1) i<cel w (j+1) (i+1):=(zT (w:=w) (j:=j+1) (i:=i)).1;have m1:=yl l1;have m2:=yl l2;have m3:=yl l3;have O:=EW (Z:=Z) (level:=level) (j:=j+1) hi M;have E:=zM (w:=w) (Z:=Z) (level:=level) (j:=j) (i:=i) (i':=i) (by omega) (by omega) M;have I:=zM (Z:=Z) (level:=level) (j:=j) (i:=i) (i':=i+1) (by omega) hi M;unfold cT;rw[Ho,J1];dsimp only;generalize cel w j i=A at*;generalize cel w (j+1) i=B at*;generalize cel w (j+1) (i+1)=C at*;unfold cO onO;have ec:((((j+1:Nat):Int)):Rat)-((oj:Int):Rat)=(((j:Int)-(oj:Int)+1:Int):Rat):=by rw[<-Rat.intCast_sub];congr 1;omega
 have z:∀{m p:K2},m=A2.mk B C->abv Z level B≠abv Z level C->Bt (j:Int) (uY w Z level p)->onQ (uX w Z level m-((oi:Int):Rat)) (uY w Z level m-((oj:Int):Rat)) (uX w Z level p-((oi:Int):Rat)) (uY w Z level p-((oj:Int):Rat))=false/\
   ctr (uX w Z level m-((oi:Int):Rat)) (uY w Z level m-((oj:Int):Rat)) (uX w Z level p-((oi:Int):Rat)) (uY w Z level p-((oj:Int):Rat))=0:=by
  rintro m p rfl T U;obtain⟨e1,e2⟩:=O T;exact G6 (v:=(j:Int)-(oj:Int)) (ay:=uY w Z level (A2.mk B C)-((oj:Int):Rat)) (bx:=uX w Z level p-((oi:Int):Rat)) (by rw[e2,ec]) (e1.sub oi) (U.sub oj)
 have D:∀{m p:K2},p=A2.mk B C->abv Z level B≠abv Z level C->Bt (j:Int) (uY w Z level m)->onQ (uX w Z level m-((oi:Int):Rat)) (uY w Z level m-((oj:Int):Rat)) (uX w Z level p-((oi:Int):Rat)) (uY w Z level p-((oj:Int):Rat))=false/\
   ctr (uX w Z level m-((oi:Int):Rat)) (uY w Z level m-((oj:Int):Rat)) (uX w Z level p-((oi:Int):Rat)) (uY w Z level p-((oj:Int):Rat))=0:=by
  rintro m p rfl T U;obtain⟨e1,e2⟩:=O T;exact HB (v:=(j:Int)-(oj:Int)) (by':=uY w Z level (A2.mk B C)-((oj:Int):Rat)) (ax:=uX w Z level m-((oi:Int):Rat)) (by rw[e2,ec]) (e1.sub oi) (U.sub oj)
 have J:∀{m p:K2},Bt (j:Int) (uY w Z level m)->Bt (j:Int) (uY w Z level p)->_:=fun {m p} h1 h2=>CZ (ax:=uX w Z level m-((oi:Int):Rat)) (bx:=uX w Z level p-((oi:Int):Rat)) (h1.sub oj) (h2.sub oj)
 cases Y:abv Z level A<;>cases hB:abv Z level B<;>cases hC:abv Z level C<;>rw[hB,hC]at O z D<;>rw[Y,hB]at E<;>rw[Y,hC]at I<;>simp only[stp,Bx,Y,hB,hC,m1,m2,m3,Bool.not_false,Bool.not_true,Bool.and_true,Bool.and_false,Bool.true_and,Bool.false_and,if_true,if_false,Bool.false_eq_true,Option.some.injEq,reduceCtorEq,false_implies,implies_true,and_true,forall_eq'];all_goals first
  |exact⟨(J (I (by simp)) (E (by simp))).2,(J (I (by simp)) (E (by simp))).1⟩
  |exact⟨(J (E (by simp)) (I (by simp))).2,(J (E (by simp)) (I (by simp))).1⟩
  |exact⟨(z rfl (by simp) (I (by simp))).2,(z rfl (by simp) (I (by simp))).1⟩
  |exact⟨(z rfl (by simp) (E (by simp))).2,(z rfl (by simp) (E (by simp))).1⟩
  |exact⟨(D rfl (by simp) (I (by simp))).2,(D rfl (by simp) (I (by simp))).1⟩
  |exact⟨(D rfl (by simp) (E (by simp))).2,(D rfl (by simp) (E (by simp))).1⟩
theorem yy{α:Type}{f:α->Int}:∀{l:List α},(∀x∈l,f x=0)->fR (l.map f)=0
 |[],_=>rfl
 |x::l,h=>by
  show f x+fR (l.map f)=0;rw[h x (by simp),yy fun y j=>h y (List.mem_cons_of_mem _ j)];rfl
theorem oM{α β:Type}{f:α->List β}{F:β->Int}:∀l:List α,fR ((l.flatMap f).map F)=fR (l.map fun x=>fR ((f x).map F))
 |[]=>rfl
 |x::l=>by rw[List.flatMap_cons,List.map_append,nR,oM l];rfl
def G5{β:Type}(F:β->Int):Option β->Int|some q=>F q|none=>0
theorem mE{α β:Type}{f:α->Option β}{F:β->Int}:∀l:List α,fR ((l.filterMap f).map F)=fR (l.map fun x=>G5 F (f x))
 |[]=>rfl
 |x::l=>by
  rw[List.filterMap_cons];cases h:f x with
  |none=>
   show fR ((l.filterMap f).map F)=G5 F (f x)+fR (l.map _);rw[h,mE l];show _=0+_;omega
  |some q=>
   show F q+fR ((l.filterMap f).map F)=G5 F (f x)+fR (l.map _);rw[h,mE l];rfl
theorem Bl{f:Nat->Int}{o:Nat}:∀m:Nat,fR ((List.range m).map fun i=>if o<=i then f i-f (i+1)else 0)=if o<=m then f o-f m else 0
 |0=>by
  show 0=_;split
  ·rename_i h;have:o=0:=by omega
   subst this;omega
  ·rfl
 |m+1=>by
  rw[List.range_succ,List.map_append,nR,Bl m];show _+((if o<=m then f m-f (m+1)else 0)+0)=_;by_cases h:o<=m
  ·rw[if_pos h,if_pos h,if_pos (by omega)];omega
  ·rw[if_neg h,if_neg h];by_cases h2:o=m+1
   ·subst h2;rw[if_pos (Nat.le_refl _)];omega
   ·rw[if_neg (by omega)];rfl
theorem AD{v:Int}{o:Nat}:∀m:Nat,fR ((List.range m).map fun j=>if j=o then v else 0)=if o<m then v else 0
 |0=>rfl
 |m+1=>by
  rw[List.range_succ,List.map_append,nR,AD m];show _+((if m=o then v else 0)+0)=_;by_cases h:m=o
  ·subst h;rw[if_neg (Nat.lt_irrefl _),if_pos rfl,if_pos (Nat.lt_succ_self _)];omega
  ·rw[if_neg h];by_cases h2:o<m
   ·rw[if_pos h2,if_pos (by omega)];omega
   ·rw[if_neg h2,if_neg (by omega)];rfl
theorem E7{g:aj}{h:Nat}(m:Lw g w h level)(p:Gd g w h)(z:level.tmod 2≠0){oi oj:Nat}(hi:oi<w)(C:oj<h):fR ((oa g w h level).map (cO w g.Z level oi oj))=b2 (abv g.Z level (cel w oj oi))/\∀q∈oa g w h level,onO w g.Z level oi oj q=false:=by
 have hw:=p.w1;have I:=p.h1;constructor
 ·unfold oa;have J:(fun t=>G5 (cO w g.Z level oi oj) (seg g.Z level t))=cT w g.Z level oi oj:=by funext t;unfold cT;cases seg g.Z level t<;>rfl
  rw[mE,m.all p,J];unfold cJ A0;rw[oM];have row:∀j∈List.range (h-1),fR (((List.range (w-1)).flatMap (fh (w:Int) j)).map (cT w g.Z level oi oj))=if j=oj then b2 (abv g.Z level (cel w j oi))-b2 (abv g.Z level (cel w j (w-1)))else 0:=by
   intro j C;rw[List.mem_range]at C;rw[oM];have cell:∀i∈List.range (w-1),fR ((fh (w:Int) j i).map (cT w g.Z level oi oj))=if j=oj then(if oi<=i then b2 (abv g.Z level (cel w j i))-b2 (abv g.Z level (cel w j (i+1)))else 0)else 0:=by
    intro i hi;rw[List.mem_range]at hi;rw[xh hw.2 (by omega) (by omega)];show cT w g.Z level oi oj (loT (cel w j i) w)+(cT w g.Z level oi oj (upT (cel w j i) w)+0)=_;rw[(EG (by omega) z).1,(E4 (by omega) z).1];by_cases h1:j=oj
    ·rw[if_pos h1];by_cases h2:oi<=i
     ·rw[if_pos ⟨h1,h2⟩,if_pos h2];omega
     ·rw[if_neg fun q=>h2 q.2,if_neg h2];rfl
    ·rw[if_neg fun q=>h1 q.1,if_neg h1];rfl
   rw[List.map_congr_left cell];by_cases h1:j=oj
   ·simp only[if_pos h1];rw[Bl (f:=fun i=>b2 (abv g.Z level (cel w j i))),if_pos (by omega)]
   ·simp only[if_neg h1];exact yy fun _ _=>rfl
  rw[List.map_congr_left row];have e:(fun j:Nat=>if j=oj then b2 (abv g.Z level (cel w j oi))-b2 (abv g.Z level (cel w j (w-1)))else 0)=fun j=>if j=oj then b2 (abv g.Z level (cel w oj oi))-b2 (abv g.Z level (cel w oj (w-1)))else 0:=by
   funext j;by_cases h:j=oj
   ·rw[h]
   ·rw[if_neg h,if_neg h]
  rw[e,AD,m.low oj (w-1) C (by omega) (by omega)];by_cases h1:oj<h-1
  ·rw[if_pos h1];show _-0=_;omega
  ·rw[if_neg h1,m.low oj oi C hi (by omega)];rfl
 ·intro q D;unfold oa at D;rw[m.all p]at D;obtain⟨t,E,e⟩:=List.mem_filterMap.1 D;obtain⟨j,i,M,N,E⟩:=(uK hw I).1 E;rcases E with rfl|rfl
  ·exact(EG (by omega) z).2 q e
  ·exact(E4 (by omega) z).2 q e
end
end Go.L

