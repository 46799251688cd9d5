import Derived.Test.YtglimpjlhfjgdaaGreatSldL51t
import Derived.Test.YtglimpjlhfjgdaaGreatSldL51t
import Derived.Test.YtglimpjlhfjgdaaGreatSldL02oB
import Derived.KernelRfl
import Derived.Test.YtglimpjlhfjgdaaGreatSldL51t
import Derived.Test.YtglimpjlhfjgdaaGreatSldL51t
import Derived.Test.YtglimpjlhfjgdaaGreatSldL51t
import Derived.Test.YtglimpjlhfjgdaaGreatSldL02oB
import Derived.Test.YtglimpjlhfjgdaaGreatSldL51t
import Derived.Test.YtglimpjlhfjgdaaGreatPl2Slds
import Derived.Test.YtglimpjlhfjgdaaGreatScSSlds
set_option linter.all false
namespace Go.L
open Go Go.Eng
def nM(on:Nat->Bool)(st:Nat->Int->Int):Nat->Nat->Int->Option Int
 |0,_,n=>some n
 |r+1,j,n=>bif on j then none else nM on st r (j+1) (st j n)
theorem IG{ρ:Type}{n len:Nat}{on:Nat->Bool}{st:Nat->Int->Int}{bad:ρ}{F:(Int×Int->Option (Sum Int ρ))->Int×Int->Option (Sum Int ρ)}(z:len<n)(D:len<=100000)
  (j:∀again (k:Nat) (m:Int) (Q:Sum Int ρ->Prop),k<len->(on k=true->Q (.inr bad))->(on k=false->Ok (again (st k m,MR ((k:Int)+1))) Q)->Ok (F again (m,(k:Int))) Q)
  (p:∀again (m:Int),F again (m,(len:Int))=some (.inl m)):aQ n F (0,0)=some (match nM on st len 0 0 with|none=>.inr bad|some m=>.inl m):=by
 apply Ok.eq;refine iB (len:=len) (fun k m=>nM on st len 0 0=nM on st (len-k) k m) z (by omega) rfl ?_ ?_
 ·rintro again k m hk e C;have q:len-k=(len-(k+1))+1:=by omega
  refine j again k m _ hk (fun h=>?_) (fun h=>C _ ?_)
  ·rw[e,q,nM,h];rfl
  ·rw[e,q,nM,h];rfl
 ·rintro again m e;rw[p];refine aC.2 ?_;rw[e,Nat.sub_self];rfl
def crQ(ax ay bx by':Rat):Rat:=ax*by'-ay*bx
def onQ(ax ay bx by':Rat):Bool:=decide (crQ ax ay bx by'=0/\ax*bx+ay*by'<=0)
def stQ(ax ay bx by':Rat)(m:Int):Int:=if ay<=0/\0<by'/\0<crQ ax ay bx by' then MR (m+1)else if 0<ay/\by'<=0/\crQ ax ay bx by'<0 then MR (m-1)else m
theorem sq_nonneg(r:Rat):0<=r*r:=by
 by_cases h:0<=r
 ·exact Rat.mul_nonneg h h
 ·have:=Rat.mul_nonneg (a:=-r) (b:=-r) (by grind) (by grind);grind
theorem CB{ax ay bx by':Rat}(h:ax*by'-ay*bx=0):ax*bx+ay*by'<=0↔(ax*bx<=0/\ay*by'<=0):=by
 have key:(ax*bx)*(ay*by')=(ax*by')*(ax*by'):=by grind
 have hs:=sq_nonneg (ax*by');constructor
 ·intro j;refine⟨?_,?_⟩
  ·apply Classical.byContradiction;intro hc;have:=Rat.mul_pos (a:=ax*bx) (b:=-(ay*by')) (by grind) (by grind);grind
  ·apply Classical.byContradiction;intro hc;have:=Rat.mul_pos (a:=-(ax*bx)) (b:=ay*by') (by grind) (by grind);grind
 ·rintro⟨a,b⟩;grind
theorem Ma(a:Rat):(a<0/\sgn a.num=-1)\/(a=0/\sgn a.num=0)\/(0<a/\sgn a.num=1):=by
 rcases bZ a.num with⟨h,e⟩|⟨h,e⟩|⟨h,e⟩
 ·refine .inl ⟨?_,e⟩;have:¬0<=a:=fun k=>by have:=Rat.num_nonneg.2 k;omega
  grind
 ·exact .inr (.inl ⟨Rat.num_eq_zero.1 h,e⟩)
 ·exact .inr (.inr ⟨F8.1 h,e⟩)
end Go.L


set_option linter.all false
namespace Go.L
open Go Go.Eng
theorem EB{r:Rat}:(sgn r.num==0)=decide (r=0):=by
 rcases Ma r with⟨h,e⟩|⟨h,e⟩|⟨h,e⟩
 ·rw[e,decide_eq_false (by grind)];rfl
 ·rw[e,decide_eq_true h];rfl
 ·rw[e,decide_eq_false (by grind)];rfl
def AtW(m p:List aE)(len:Nat)(X Y:Nat->Rat):Prop:=m.length=len/\p.length=len/\∀j,j<len->Qx (m.getD j default).X (X j) 27/\Qx (m.getD j default).Y (Y j) 27/\R.Qx (p.getD j default).X (X j) 27/\R.Qx (p.getD j default).Y (Y j) 27
def onW(X Y:Nat->Rat)(ox oy:Rat)(len k:Nat):Bool:=onQ (X k-ox) (Y k-oy) (X ((k+1)%len)-ox) (Y ((k+1)%len)-oy)
def stW(X Y:Nat->Rat)(ox oy:Rat)(len k:Nat)(m:Int):Int:=stQ (X k-ox) (Y k-oy) (X ((k+1)%len)-ox) (Y ((k+1)%len)-oy) m
theorem J7{k len:Nat}(hk:k<len)(j:len<=100000):(MR ((k:Int)+1)).tmod (len:Int)=(((k+1)%len:Nat):Int):=by
 rw[wrap64_in (by omega) (by omega)];exact AO (a:=k+1) (b:=len)
theorem Hg{β:Type}{Q:β->Prop}{again:Int×Int->Option β}{ax ay bx by':Rat}{m q:Int}(h:Ok (again (stQ ax ay bx by' m,q)) Q):
  Ok (cdO (decide (sgn ay.num<=0)) (cdO (!(decide (sgn by'.num<=0))) (cdO (decide (sgn (crQ ax ay bx by').num>0)) (again (MR (m+1),q)) (again (m,q))) (again (m,q)))
   (cdO (decide (sgn by'.num<=0)) (cdO (decide (sgn (crQ ax ay bx by').num<0)) (again (MR (m-1),q)) (again (m,q))) (again (m,q)))) Q:=by
 have C:=Cz (a:=ay);have z:=Cz (a:=by');have hc:=Kf (a:=crQ ax ay bx by');have p:sgn (crQ ax ay bx by').num<0↔crQ ax ay bx by'<0:=by
  have:=H7 (a:=crQ ax ay bx by');constructor
  ·intro k;apply Classical.byContradiction;intro E;have:=this.2 (by grind);omega
  ·intro k;apply Classical.byContradiction;intro E;have:=this.1 (by omega);grind
 have same:stQ ax ay bx by' m=m->Ok (again (m,q)) Q:=fun e=>by rw[<-e];simpa [e]using h
 refine Ok.cd (fun h1=>?_) (fun h1=>?_)
 ·have h1:=C.1 (dcT h1);refine Ok.cd (fun h2=>?_) (fun h2=>same ?_)
  ·have h2:¬by'<=0:=fun k=>by rw[decide_eq_true (z.2 k)]at h2;cases h2
   refine Ok.cd (fun j=>?_) (fun j=>same ?_)
   ·have j:=hc.1 (dcT j);have e:stQ ax ay bx by' m=MR (m+1):=by unfold stQ;rw[if_pos ⟨h1,by grind,j⟩]
    rw[<-e];exact h
   ·have j:¬0<crQ ax ay bx by':=fun k=>dcF j (hc.2 k)
    unfold stQ;rw[if_neg fun k=>j k.2.2,if_neg fun k=>by grind]
  ·have h2:by'<=0:=by
    apply z.1;cases D:decide (sgn by'.num<=0)with
    |true=>exact dcT D
    |false=>rw[D]at h2;cases h2
   unfold stQ;rw[if_neg fun k=>by grind,if_neg fun k=>by grind]
 ·have h1:¬ay<=0:=fun k=>dcF h1 (C.2 k)
  refine Ok.cd (fun h2=>?_) (fun h2=>same ?_)
  ·have h2:=z.1 (dcT h2);refine Ok.cd (fun j=>?_) (fun j=>same ?_)
   ·have j:=p.1 (dcT j);have e:stQ ax ay bx by' m=MR (m-1):=by unfold stQ;rw[if_neg fun k=>h1 k.1,if_pos ⟨by grind,h2,j⟩]
    rw[<-e];exact h
   ·have j:¬crQ ax ay bx by'<0:=fun k=>dcF j (p.2 k)
    unfold stQ;rw[if_neg fun k=>h1 k.1,if_neg fun k=>j k.2.2]
  ·have h2:¬by'<=0:=fun k=>dcF h2 (z.2 k)
   unfold stQ;rw[if_neg fun k=>h1 k.1,if_neg fun k=>h2 k.2.1]
theorem EL{β:Type}{Q:β->Prop}{again:Int×Int->Option β}{ax ay bx by':Rat}{m q:Int}(h:Ok (again (stQ ax ay bx by' m,q)) Q):
  Ok (bdO (α:=Bool) (cdO (decide (sgn ay.num<=0)) (cdO (!(decide (sgn by'.num<=0))) (some (decide (sgn (crQ ax ay bx by').num>0))) (some false)) (some false)) fun j=>
   cdO j (again (MR (m+1),q)) (cdO (!(decide (sgn ay.num<=0))) (cdO (decide (sgn by'.num<=0)) (cdO (decide (sgn (crQ ax ay bx by').num<0)) (again (MR (m-1),q)) (again (m,q))) (again (m,q))) (again (m,q)))) Q:=by
 have h:=Hg h;cases h1:decide (sgn ay.num<=0)<;>cases h2:decide (sgn by'.num<=0)<;>cases p:decide (sgn (crQ ax ay bx by').num>0)<;>cases z:decide (sgn (crQ ax ay bx by').num<0)<;>rw[h1,h2,p,z]at h<;>exact h
theorem Ix{L1 L2:List aE}{len:Nat}{X Y:Nat->Rat}(h:AtW L1 L2 len X Y)(hl:len<=80){p:aE}{ox oy:Rat}(h5:Qx p.X ox 27)(h6:Qx p.Y oy 27):
  fY 20000 L1 p=some (match nM (onW X Y ox oy len) (stW X Y ox oy len) len 0 0 with|none=>(0,true)|some m=>(m,false)):=by
 obtain⟨hL,_,hq⟩:=h;unfold fY;rw[hL,IG (len:=len) (on:=onW X Y ox oy len) (st:=stW X Y ox oy len) (bad:=((0:Int),true)) (by omega) (by omega) ?_ ?_]
 ·show(match (match nM (onW X Y ox oy len) (stW X Y ox oy len) len 0 0 with|none=>Sum.inr ((0:Int),true)|some m=>Sum.inl m:Sum Int (Int×Bool))with|.inl a8=>_|.inr r0=>_)=_;cases nM (onW X Y ox oy len) (stW X Y ox oy len) len 0 0<;>rfl
 ·intro again k m Q hk J C;have D:(k+1)%len<len:=Nat.mod_lt _ (by omega);obtain⟨a1,a2,_,_⟩:=hq k hk;obtain⟨b1,b2,_,_⟩:=hq _ D;dsimp only;rw[J7 hk (by omega),cZ,cZ];refine Ok.cd (fun _=>?_) (fun h=>by have:=dcF h;omega);refine Ok.gd (by rw[bf];exact decide_eq_true hk) (Ok.gd (by simp;omega) (Ok.gd (by rw[bf];exact decide_eq_true D) ?_));refine Ok.bd (sU (by omega) (by omega) a1 h5) fun ax E=>Ok.bd (sU (by omega) (by omega) a2 h6) fun ay j=>Ok.bd (sU (by omega) (by omega) b1 h5) fun bx I=>Ok.bd (sU (by omega) (by omega) b2 h6) fun by' z=>?_
  refine Ok.bd (tX (by omega) (by omega) E z) fun u1 M=>Ok.bd (tX (by omega) (by omega) j I) fun u2 N=>Ok.bd (sU (by omega) (by omega) M N) fun u3 O=>?_
  refine Ok.bde (td (by omega) (by omega) O) ?_;have T:(X k-ox)*(Y ((k+1)%len)-oy)-(Y k-oy)*(X ((k+1)%len)-ox)=crQ (X k-ox) (Y k-oy) (X ((k+1)%len)-ox) (Y ((k+1)%len)-oy):=rfl;rw[T,EB];refine Ok.bd (R:=fun o=>(o=Sum.inr ((0:Int),true)/\onW X Y ox oy len k=true)\/(o=Sum.inl ()/\onW X Y ox oy len k=false)) ?_ ?_
  ·refine Ok.cd (fun hc=>?_) (fun hc=>aC.2 (.inr ⟨rfl,?_⟩))
   ·refine Ok.bd (tX (by omega) (by omega) E I) fun w1 U=>Ok.bd (tX (by omega) (by omega) j z) fun w2 a6=>Ok.bd (zj (by omega) (by omega) U a6) fun w3 a7=>?_
    refine Ok.bde (td (by omega) (by omega) a7) ?_;have hc:=dcT hc;refine Ok.cd (fun hd=>aC.2 (.inl ⟨rfl,?_⟩)) (fun hd=>aC.2 (.inr ⟨rfl,?_⟩))
    ·exact decide_eq_true ⟨hc,Cz.1 (dcT hd)⟩
    ·exact decide_eq_false fun q=>dcF hd (Cz.2 q.2)
   ·exact decide_eq_false fun q=>dcF hc q.1
  ·rintro o (⟨rfl,ho⟩|⟨rfl,ho⟩)
   ·exact aC.2 (J ho)
   ·refine Ok.bde (td (by omega) (by omega) j) (Ok.bde (td (by omega) (by omega) z) ?_);exact EL (C ho)
 ·intro again m;dsimp only;have:decide ((len:Int)<(len:Int))=false:=by simp
  rw[this];rfl
end Go.L


set_option linter.unusedVariables false
namespace Go.L
open Go Go.Eng
def Bd1(r:Rat):Prop:=∃p q:Int,r=Rat.divInt p q/\0<q/\q<=1000000000000000/\ -100000000000000000000000<=p/\p<=100000000000000000000000
theorem Bd1.neg{r:Rat}(h:Bd1 r):Bd1 (-r):=by
 obtain⟨p,q,h1,h2,j,m,z⟩:=h;exact⟨-p,q,by rw[h1,Rat.neg_divInt],h2,j,by omega,by omega⟩
def Bd(r:Rat)(i:Nat):Prop:=∃p q:Int,r=Rat.divInt p q/\0<q/\q<=1000000000000000^i/\ -(i*100000000*1000000000000000^i)<=p/\p<=i*100000000*1000000000000000^i
theorem Bd.add{r s:Rat}{i:Nat}(h:Bd r i)(k:Bd1 s):Bd (r+s) (i+1):=by
 obtain⟨p,q,h1,h2,C,D,E⟩:=h;obtain⟨u,v,J,M,z,N,O⟩:=k;have Y:(0:Int)<1000000000000000^i:=Int.pow_pos (by omega);refine⟨p*v+u*q,q*v,?_,Int.mul_pos h2 M,?_,?_,?_⟩
 ·rw[h1,J,Rat.divInt_add_divInt _ _ (by omega) (by omega)]
 ·rw[Int.pow_succ];exact Int.mul_le_mul C z (by omega) (by omega)
 all_goals
  rw[Int.pow_succ]
  push_cast
  generalize (1000000000000000:Int)^i=P at*;generalize T:(i:Int)*100000000=I at*;have j:0<=I:=by omega
  have e:((i:Int)+1)*100000000*(P*1000000000000000)=I*P*1000000000000000+100000000*(P*1000000000000000):=by rw[Int.add_mul,T,Int.add_mul,Int.one_mul,Int.mul_assoc]
  have m:0<=I*P:=Int.mul_nonneg j (by omega);have m1:p*v<=I*P*v:=mrT E (by omega);have m2:I*P*v<=I*P*1000000000000000:=mlT z m;have m3:u*q<=100000000000000000000000*q:=mrT O (by omega);have U:-(I*P)*v<=p*v:=mrT D (by omega);rw[Int.neg_mul]at U;have n3:-100000000000000000000000*q<=u*q:=mrT N (by omega);rw[e];generalize I*P*v=T1 at*;generalize I*P*1000000000000000=T2 at*;generalize p*v=T3 at*;generalize u*q=T4 at*;omega
theorem FI{i:Nat}(h:i<=56):(1000000000000000:Int)^i<=1000000000000000^56:=by
 obtain⟨j,m⟩:∃j,56=i+j:=⟨56-i,by omega⟩;rw[show(1000000000000000:Int)^56=1000000000000000^i*1000000000000000^j by rw[<-Int.pow_add,<-m]];have h1:(1:Int)<=1000000000000000^j:=Int.pow_pos (by omega);have h2:(0:Int)<1000000000000000^i:=Int.pow_pos (by omega);have:=mlT h1 (Int.le_of_lt h2);omega
theorem Lq:(5600000000:Int)*1000000000000000^56<pB 95:=dcT (by kernel_rfl)
theorem Bd.len{nn dn:Bool}{ng m:List Int}{r:Rat}{i j:Nat}(h:Bd r i)(hi:i<=56)(q:QL nn ng dn m r j):QL nn ng dn m r 95:=by
 obtain⟨p,d,h1,h2,z,C,D⟩:=h;have hp:=FI hi;have E:=Lq;have I:(0:Int)<1000000000000000^i:=Int.pow_pos (by omega);have hm:(i:Int)*100000000*1000000000000000^i<=5600000000*1000000000000000^56:=Int.mul_le_mul (by omega) hp (by omega) (by omega);generalize (i:Int)*100000000*1000000000000000^i=M at*;generalize (1000000000000000:Int)^i=P at*;generalize (1000000000000000:Int)^56=R at*;exact QL.tight q h1 h2 (by omega) (by omega) (by omega)
end Go.L


set_option linter.all false
namespace Go.L
open Go Go.Eng
def h2(A:Int):Rat:=Rat.divInt A 2
end Go.L


set_option linter.all false
namespace Go.L
open Go Go.Eng
abbrev T4:=Bool×List Int×Bool×List Int
abbrev T12:=Bool×List Int×Bool×List Int×Bool×List Int×Bool×List Int×Bool×List Int×Bool×List Int
def rs(s:T4):an:=an.mk (ah.mk s.1 s.2.1) (ah.mk s.2.2.1 s.2.2.2)
def r1(o:T12):an:=an.mk (ah.mk o.1 o.2.1) (ah.mk o.2.2.1 o.2.2.2.1)
def r2(o:T12):an:=an.mk (ah.mk o.2.2.2.2.1 o.2.2.2.2.2.1) (ah.mk o.2.2.2.2.2.2.1 o.2.2.2.2.2.2.2.1)
def r3(o:T12):an:=an.mk (ah.mk o.2.2.2.2.2.2.2.2.1 o.2.2.2.2.2.2.2.2.2.1) (ah.mk o.2.2.2.2.2.2.2.2.2.2.1 o.2.2.2.2.2.2.2.2.2.2.2)
end Go.L


set_option linter.all false
namespace Go.L
open Go Go.Eng
def hgt(Z:List Int)(level k:Int):Int:=2*gt Z k-level
def okZ(z:Int):Prop:=-1048576<=z/\z<=1048576
def okL(level:Int):Prop:=level.tmod 2≠0/\ -2097153<=level/\level<=2097153
theorem zin{g:aj}{w h:Nat}(q:g.Z.any pO=false){t:A3 Int}(z:Gd g w h)(p:t∈jd g w h):(inR t.e0 g.Z.length=true/\inR t.e1 g.Z.length=true/\inR t.e2 g.Z.length=true)/\okZ (gt g.Z t.e0)/\okZ (gt g.Z t.e1)/\okZ (gt g.Z t.e2):=by
 unfold jd at p;rw[List.mem_filter]at p;obtain⟨i0,i1,i2⟩:=xi z p.1;have j:=p.2;unfold gQ at j;simp only[Bool.and_eq_true]at j;have key:∀{k:Int},inR k g.Z.length=true->(gt g.Z k != -2147483648)=true->okZ (gt g.Z k):=by
  intro k hk C;have D:=iK.1 hk;obtain⟨m,rfl⟩:∃m:Nat,k=(m:Int):=⟨k.toNat,by omega⟩;have hm:m<g.Z.length:=by omega
  have h1:gt g.Z (m:Int)∈g.Z:=by
   rw[cZ];simp only[List.getD,geT hm,Option.getD_some];exact List.getElem_mem hm
  have:=List.any_eq_false.1 q _ h1;unfold pO rY at this;rw[C]at this;simp at this;exact⟨by omega,by omega⟩
 exact⟨⟨i0,i1,i2⟩,key i0 j.1,key i1 j.2.1,key i2 j.2.2⟩
theorem KH{w h:Nat}(hw:2<=w)(j:2<=h)(hm:w*h<=40):2*((w-1)*(h-1))<=56:=by
 have h1:w*2<=w*h:=Nat.mul_le_mul_left w j;have h2:2*h<=w*h:=Nat.mul_le_mul_right h hw;have:∀w,w<21->∀h,h<21->2<=w->2<=h->w*h<=40->2*((w-1)*(h-1))<=56:=by decide
 exact this w (by omega) h (by omega) hw j hm
end Go.L


set_option linter.all false
namespace Go.L
open Go Go.Eng
theorem nn{a:Rat}(h:a≠0):(0< -a)↔¬0<a:=by constructor<;>intro k<;>grind
end Go.L


set_option linter.all false
namespace Go.L
open Go Go.Eng
theorem Gu{g:aj}{w h:Nat}:(jd g w h).length<=2*((w-1)*(h-1)):=by
 have:=List.length_filter_le (gQ g.Z) (cJ g.Width (w-1) (h-1));rw[sS,Nat.mul_assoc]at this;exact this
def ES(c level:Int):Int:=if c≠0 then c else if level.tmod 2=0 then 1 else if level< -2097153 then 2 else if 2097153<level then 2 else 0
theorem LR{α:Type}{c level:Int}:(cdO ((c:Int)!=0) (some c) (cdO (((level.tmod 2):Int)==0) (some 1) (cdO (decide (level<(-2097153))) (some 2) (cdO (decide (level>2097153)) (some 2) (some 0)))):Option Int)=some (ES c level):=by
 unfold ES;by_cases m:c=0
 ·subst m;by_cases h1:level.tmod 2=0
  ·rw[h1];rfl
  ·rw[show(level.tmod 2==0)=false by simpa using h1,if_neg (by simp),if_neg h1];by_cases h2:level< -2097153
   ·rw[decide_eq_true h2,if_pos h2];rfl
   ·rw[decide_eq_false h2,if_neg h2];by_cases j:level>2097153
    ·rw[decide_eq_true j,if_pos j];rfl
    ·rw[decide_eq_false j,if_neg j];rfl
 ·rw[show(c !=0)=true by simpa using m,if_pos m];rfl
theorem IB(g:aj)(level:Int):fI 20000 g level=some (ES (pF g) level):=by
 unfold fI;rw[sZ (by omega)];exact LR (α:=Int)
end Go.L


set_option linter.all false
namespace Go.L
open Go Go.Eng
section
variable{γ:Type}{κ:γ->Int}
abbrev ltK(κ:γ->Int):γ->γ->Bool:=fun x y=>decide (κ x<κ y)
theorem xw{lt lt':γ->γ->Bool}{x:γ}:∀{l:List γ},(∀y,y∈l->lt y x=lt' y x)->lL lt x l=lL lt' x l
 |[],_=>rfl
 |y::l,h=>by
  unfold lL;rw[h y (by simp),xw (l:=l) fun z j=>h z (List.mem_cons_of_mem _ j)]
theorem xD{lt:γ->γ->Bool}{x z:γ}:∀{l:List γ},z∈lL lt x l↔z=x\/z∈l
 |[]=>by simp[lL]
 |y::l=>by
  unfold lL;split
  ·rw[List.mem_cons,xD (l:=l),List.mem_cons];constructor
   ·rintro(h|h|h)
    ·exact .inr (.inl h)
    ·exact .inl h
    ·exact .inr (.inr h)
   ·rintro(h|h|h)
    ·exact .inr (.inl h)
    ·exact .inl h
    ·exact .inr (.inr h)
  ·rw[List.mem_cons]
theorem jN{lt:γ->γ->Bool}{z:γ}:∀{l:List γ},z∈iX lt l↔z∈l
 |[]=>Iff.rfl
 |x::l=>by unfold iX;rw[xD,jN (l:=l),List.mem_cons]
theorem Ag{lt:γ->γ->Bool}{x:γ}:∀{l:List γ},(lL lt x l).length=l.length+1
 |[]=>rfl
 |y::l=>by
  unfold lL;split
  ·rw[List.length_cons,Ag (l:=l),List.length_cons]
  ·rw[List.length_cons]
theorem me{lt:γ->γ->Bool}:∀{l:List γ},(iX lt l).length=l.length
 |[]=>rfl
 |x::l=>by unfold iX;rw[Ag,me (l:=l),List.length_cons]
theorem u9{lt lt':γ->γ->Bool}:∀{l:List γ},(∀x y,x∈l->y∈l->lt x y=lt' x y)->iX lt l=iX lt' l
 |[],_=>rfl
 |x::l,h=>by
  unfold iX;rw[u9 (l:=l) fun y z j m=>h y z (List.mem_cons_of_mem _ j) (List.mem_cons_of_mem _ m)];exact xw fun y j=>h y x (List.mem_cons_of_mem _ (jN.1 j)) (by simp)
theorem DH{x:γ}:∀{l:List γ},l.Pairwise (fun a b=>κ a<κ b)->(∀y,y∈l->κ y≠κ x)->(lL (ltK κ) x l).Pairwise (fun a b=>κ a<κ b)
 |[],_,_=>by simp[lL]
 |y::l,h,p=>by
  unfold lL;rw[List.pairwise_cons]at h;have q:=p y (by simp);by_cases m:κ y<κ x
  ·rw[if_pos (decide_eq_true m),List.pairwise_cons];refine⟨fun z j=>?_,DH h.2 fun z j=>p z (List.mem_cons_of_mem _ j)⟩;rcases xD.1 j with rfl|j
   ·exact m
   ·exact h.1 z j
  ·rw[if_neg (by simpa [ltK]using m),List.pairwise_cons];refine⟨fun z j=>?_,List.pairwise_cons.2 h⟩;rcases List.mem_cons.1 j with rfl|j
   ·omega
   ·have:=h.1 z j;omega
theorem xy:∀{l:List γ},l.Pairwise (fun a b=>κ a≠κ b)->(iX (ltK κ) l).Pairwise (fun a b=>κ a<κ b)
 |[],_=>.nil
 |x::l,h=>by
  rw[List.pairwise_cons]at h;exact DH (xy h.2) fun y j=>(fun e=>h.1 y (jN.1 j) e.symm)
theorem yc[DecidableEq γ]{cmp:γ->γ->Option Int}{l:List γ}(hs:∀x y,x∈l->y∈l->∃c,cmp x y=some c/\(c<0↔κ x<κ y))(inj:∀x y,x∈l->y∈l->κ x=κ y->x=y):vt cmp l=some (iX (ltK κ) l):=by
 have hc:∀x y,x∈l->y∈l->(cfO cmp x y<0↔κ x<κ y):=fun x y j m=>by
  obtain⟨c,h1,h2⟩:=hs x y j m;unfold cfO;rw[h1];exact h2
 have ok:zO cmp l=true:=by
  unfold zO;rw[List.all_eq_true];intro x j;rw[Bool.and_eq_true,List.all_eq_true];refine⟨decide_eq_true (by rw[hc x x j j];omega),fun y m=>?_⟩;rw[Bool.and_eq_true];refine⟨by obtain⟨c,h1,_⟩:=hs x y j m;rw[h1];rfl,?_⟩;rw[Bool.and_eq_true,List.all_eq_true];refine⟨decide_eq_true ?_,fun z p=>?_⟩
  ·rw[hc x y j m,hc y x m j];by_cases h:κ x=κ y
   ·exact .inr (.inr (inj x y j m h))
   ·omega
  ·rw[Bool.and_eq_true];refine⟨decide_eq_true ?_,decide_eq_true ?_⟩
   ·rw[hc x y j m,hc y z m p,hc x z j p];omega
   ·rw[hc x y j m,hc y z m p,hc x z j p];omega
 unfold vt;rw[if_pos ok,u9 (lt':=ltK κ) fun x y j m=>by rw[decide_eq_decide];exact hc x y j m]
end
end Go.L

