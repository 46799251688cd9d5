import Derived.Test.YtlhnaccgnegjdaaGreatNesL51u
import Derived.Test.YtlhnaccgnegjdaaGreatNesL51v
import Derived.Test.YtlhnaccgnegjdaaGreatNesL02sB
import Derived.KernelRfl
import Derived.Test.YtlhnaccgnegjdaaGreatNesL51v
import Derived.Test.YtlhnaccgnegjdaaGreatNesL51v
import Derived.Test.YtlhnaccgnegjdaaGreatNesL02sB
import Derived.Test.YtlhnaccgnegjdaaGreatNesL02sB
import Derived.Test.YtlhnaccgnegjdaaGreatNesL51v
import Derived.Test.YtlhnaccgnegjdaaGreatPl2Ness
import Derived.Test.YtlhnaccgnegjdaaGreatScSNess
set_option linter.all false
namespace Go.L
open Go Go.Eng
theorem FQ{a b p:al}{q z C D j m:Rat}(h1:R.Qx a.X q 27)(h2:R.Qx a.Y z 27)(E:R.Qx b.X C 27)(I:R.Qx b.Y D 27)(J:R.Qx p.X j 27)(M:R.Qx p.Y m 27):
  gM 20000 a b p=some (sgn (crQ (q-j) (z-m) (C-j) (D-m)).num):=by
 apply Ok.eq;unfold gM;refine Ok.bd (R.lk (by omega) (by omega) E h1) fun v1 N=>Ok.bd (R.lk (by omega) (by omega) M h2) fun v2 O=>Ok.bd (R.oa (by omega) (by omega) N O) fun v3 T=>?_
 refine Ok.bd (R.lk (by omega) (by omega) I h2) fun v4 U=>Ok.bd (R.lk (by omega) (by omega) J h1) fun v5 k5=>Ok.bd (R.oa (by omega) (by omega) U k5) fun v6 k6=>?_
 refine Ok.bde (R.lR (by omega) (by omega) T k6) (aw.2 ?_);have e:(C-q)*(m-z)-(D-z)*(j-q)=crQ (q-j) (z-m) (C-j) (D-m):=by unfold crQ;grind
 rw[e]
theorem zC{a b p:aj}{x y o:Rat}(h1:R.Qx a x 27)(h2:R.Qx b y 27)(j:R.Qx p o 27):cI 20000 a b p=some (decide ((x-o)*(y-o)<=0)):=by
 apply Ok.eq;unfold cI;refine Ok.bde (R.lR (by omega) (by omega) h1 j) (Ok.bde (R.lR (by omega) (by omega) j h2) (aw.2 ?_));rw[show o-y=-(y-o)by grind];exact Ga (x-o) (y-o)
theorem FM{a b p:al}{m C q D j z:Rat}(h1:R.Qx a.X m 27)(h2:R.Qx a.Y C 27)(E:R.Qx b.X q 27)(I:R.Qx b.Y D 27)(J:R.Qx p.X j 27)(M:R.Qx p.Y z 27):
  fI 20000 a b p=some (decide ((m-j)*(q-j)<=0)&&decide ((C-z)*(D-z)<=0)):=by
 unfold fI;rw[zC h1 E J,zC h2 I M];cases decide ((m-j)*(q-j)<=0)<;>rfl
theorem Hq{ax ay bx by':Rat}:onQ ax ay bx by'=(decide (crQ ax ay bx by'=0)&&(decide (ax*bx<=0)&&decide (ay*by'<=0))):=by
 unfold onQ;by_cases h:crQ ax ay bx by'=0
 ·have hd:=Gg (ax:=ax) (ay:=ay) (bx:=bx) (by':=by') (by unfold crQ at h;exact h);simp only[h,hd,true_and,decide_true,Bool.true_and,Bool.decide_and]
 ·simp[h]
theorem AS{r:Rat}:(sgn r.num==0)=decide (r=0):=by
 rcases H8 r with⟨h,e⟩|⟨h,e⟩|⟨h,e⟩
 ·rw[e,decide_eq_false (by grind)];rfl
 ·rw[e,decide_eq_true h];rfl
 ·rw[e,decide_eq_false (by grind)];rfl
def At(m p:List al)(len:Nat)(X Y:Nat->Rat):Prop:=m.length=len/\p.length=len/\∀j,j<len->Qx (m.getD j default).X (X j) 27/\Qx (m.getD j default).Y (Y j) 27/\R.Qx (p.getD j default).X (X j) 27/\R.Qx (p.getD j default).Y (Y j) 27
def onW(X Y:Nat->Rat)(j m:Rat)(len k:Nat):Bool:=onQ (X k-j) (Y k-m) (X ((k+1)%len)-j) (Y ((k+1)%len)-m)
def stW(X Y:Nat->Rat)(j p:Rat)(len k:Nat)(m:Int):Int:=stQ (X k-j) (Y k-p) (X ((k+1)%len)-j) (Y ((k+1)%len)-p) m
theorem Hd{k len:Nat}(j:k<len)(m:len<=100000):(Jy ((k:Int)+1)).tmod (len:Int)=(((k+1)%len:Nat):Int):=by
 rw[wrap64_in (by omega) (by omega)];exact GY (a:=k+1) (b:=len)
theorem C4{β:Type}{Q:β->Prop}{again:Int×Int->Option β}{ax ay bx by':Rat}{m q:Int}(h:Ok (again (stQ ax ay bx by' m,q)) Q):
  Ok (cdO (decide (sgn ay.num<=0)) (cdO (!(decide (sgn by'.num<=0))) (cdO (decide (sgn (crQ ax ay bx by').num>0)) (again (Jy (m+1),q)) (again (m,q))) (again (m,q)))
   (cdO (decide (sgn by'.num<=0)) (cdO (decide (sgn (crQ ax ay bx by').num<0)) (again (Jy (m-1),q)) (again (m,q))) (again (m,q)))) Q:=by
 have ha:=DB (a:=ay);have hb:=DB (a:=by');have hc:=GX (a:=crQ ax ay bx by');have p:sgn (crQ ax ay bx by').num<0↔crQ ax ay bx by'<0:=by
  have:=Eh (a:=crQ ax ay bx by');constructor
  ·intro k;apply Classical.byContradiction;intro z;have:=this.2 (by grind);omega
  ·intro k;apply Classical.byContradiction;intro z;have:=this.1 (by omega);grind
 have same:stQ ax ay bx by' m=m->Ok (again (m,q)) Q:=fun e=>by rw[<-e];simpa [e]using h
 refine Ok.cd (fun h1=>?_) (fun h1=>?_)
 ·have h1:=ha.1 (dcT h1);refine Ok.cd (fun h2=>?_) (fun h2=>same ?_)
  ·have h2:¬by'<=0:=fun k=>by rw[decide_eq_true (hb.2 k)]at h2;cases h2
   refine Ok.cd (fun j=>?_) (fun j=>same ?_)
   ·have j:=hc.1 (dcT j);have e:stQ ax ay bx by' m=Jy (m+1):=by unfold stQ;rw[if_pos ⟨h1,by grind,j⟩]
    rw[<-e];exact h
   ·have j:¬0<crQ ax ay bx by':=fun k=>dcF j (hc.2 k)
    unfold stQ;rw[if_neg fun k=>j k.2.2,if_neg fun k=>by grind]
  ·have h2:by'<=0:=by
    apply hb.1;cases hd:decide (sgn by'.num<=0)with
    |true=>exact dcT hd
    |false=>rw[hd]at h2;cases h2
   unfold stQ;rw[if_neg fun k=>by grind,if_neg fun k=>by grind]
 ·have h1:¬ay<=0:=fun k=>dcF h1 (ha.2 k)
  refine Ok.cd (fun h2=>?_) (fun h2=>same ?_)
  ·have h2:=hb.1 (dcT h2);refine Ok.cd (fun j=>?_) (fun j=>same ?_)
   ·have j:=p.1 (dcT j);have e:stQ ax ay bx by' m=Jy (m-1):=by unfold stQ;rw[if_neg fun k=>h1 k.1,if_pos ⟨by grind,h2,j⟩]
    rw[<-e];exact h
   ·have j:¬crQ ax ay bx by'<0:=fun k=>dcF j (p.2 k)
    unfold stQ;rw[if_neg fun k=>h1 k.1,if_neg fun k=>j k.2.2]
  ·have h2:¬by'<=0:=fun k=>dcF h2 (hb.2 k)
   unfold stQ;rw[if_neg fun k=>h1 k.1,if_neg fun k=>h2 k.2.1]
theorem ER{β:Type}{Q:β->Prop}{again:Int×Int->Option β}{ax ay bx by':Rat}{m q:Int}(h:Ok (again (stQ ax ay bx by' m,q)) Q):
  Ok (bdO (α:=Bool) (cdO (decide (sgn ay.num<=0)) (cdO (!(decide (sgn by'.num<=0))) (some (decide (sgn (crQ ax ay bx by').num>0))) (some false)) (some false)) fun j=>
   cdO j (again (Jy (m+1),q)) (cdO (!(decide (sgn ay.num<=0))) (cdO (decide (sgn by'.num<=0)) (cdO (decide (sgn (crQ ax ay bx by').num<0)) (again (Jy (m-1),q)) (again (m,q))) (again (m,q))) (again (m,q)))) Q:=by
 have h:=C4 h;cases h1:decide (sgn ay.num<=0)<;>cases h2:decide (sgn by'.num<=0)<;>cases p:decide (sgn (crQ ax ay bx by').num>0)<;>cases z:decide (sgn (crQ ax ay bx by').num<0)<;>rw[h1,h2,p,z]at h<;>exact h
theorem HP{L1 I:List al}{len:Nat}{X Y:Nat->Rat}(h:At L1 I len X Y)(hl:len<=80){p:al}{j q:Rat}(U:R.Qx p.X j 27)(J:R.Qx p.Y q 27):
  eu 20000 I p=some (match oV (onW X Y j q len) (stW X Y j q len) len 0 0 with|none=>(0,false)|some m=>(m,decide ((len:Int)>0))):=by
 obtain⟨_,hL,hq⟩:=h;unfold eu;rw[hL,FG (len:=len) (on:=onW X Y j q len) (st:=stW X Y j q len) (bad:=((0:Int),false)) (by omega) (by omega) ?_ ?_]
 ·show(match (match oV (onW X Y j q len) (stW X Y j q len) len 0 0 with|none=>Sum.inr ((0:Int),false)|some m=>Sum.inl m:Sum Int (Int×Bool))with|.inl a0=>_|.inr r0=>_)=_;cases oV (onW X Y j q len) (stW X Y j q len) len 0 0<;>rfl
 ·intro again k m Q M N C;have D:(k+1)%len<len:=Nat.mod_lt _ (by omega);obtain⟨_,_,a1,O⟩:=hq k M;obtain⟨_,_,b1,b2⟩:=hq _ D;dsimp only;rw[Hd M (by omega),jV,jV];refine Ok.cd (fun _=>?_) (fun h=>by have:=dcF h;omega);refine Ok.gd (by rw[aR];exact decide_eq_true M) (Ok.gd (by simp;omega) (Ok.gd (by rw[aR];exact decide_eq_true D) ?_));refine Ok.bde (FQ a1 O b1 b2 U J) ?_;have z:onW X Y j q len k=(decide (crQ (X k-j) (Y k-q) (X ((k+1)%len)-j) (Y ((k+1)%len)-q)=0)&&(decide ((X k-j)*(X ((k+1)%len)-j)<=0)&&decide ((Y k-q)*(Y ((k+1)%len)-q)<=0))):=Hq;rw[AS];have rest:onW X Y j q len k=false->Ok (bdO (aW 20000 (I.getD k default).Y p.Y) fun T=>bdO (aW 20000 (I.getD ((k+1)%len) default).Y p.Y) fun E=>
    cdO (decide (T<=0)) (cdO (!(decide (E<=0))) (cdO (decide (sgn (crQ (X k-j) (Y k-q) (X ((k+1)%len)-j) (Y ((k+1)%len)-q)).num>0)) (again (Jy (m+1),Jy ((k:Int)+1))) (again (m,Jy ((k:Int)+1)))) (again (m,Jy ((k:Int)+1))))
     (cdO (decide (E<=0)) (cdO (decide (sgn (crQ (X k-j) (Y k-q) (X ((k+1)%len)-j) (Y ((k+1)%len)-q)).num<0)) (again (Jy (m-1),Jy ((k:Int)+1))) (again (m,Jy ((k:Int)+1)))) (again (m,Jy ((k:Int)+1))))) Q:=fun hf=>by
   refine Ok.bde (R.lR (by omega) (by omega) O J) (Ok.bde (R.lR (by omega) (by omega) b2 J) ?_);exact C4 (C hf)
  refine Ok.cd (fun hc=>?_) (fun hc=>rest (by rw[z,hc];rfl));refine Ok.bde (FM a1 O b1 b2 U J) (Ok.cd (fun hw=>aw.2 (N (by rw[z,hc,hw];rfl))) (fun hw=>rest (by rw[z,hc,hw];rfl)))
 ·intro again m;dsimp only;have:decide ((len:Int)<(len:Int))=false:=by simp
  rw[this];rfl
theorem Hs{L1 L2:List al}{len:Nat}{X Y:Nat->Rat}(h:At L1 L2 len X Y)(hl:len<=80){p:al}{j z:Rat}(h5:Qx p.X j 27)(h6:Qx p.Y z 27):
  ib 20000 L1 p=some (match oV (onW X Y j z len) (stW X Y j z len) len 0 0 with|none=>(0,true)|some m=>(m,false)):=by
 obtain⟨hL,_,hq⟩:=h;unfold ib;rw[hL,FG (len:=len) (on:=onW X Y j z len) (st:=stW X Y j z len) (bad:=((0:Int),true)) (by omega) (by omega) ?_ ?_]
 ·show(match (match oV (onW X Y j z len) (stW X Y j z len) len 0 0 with|none=>Sum.inr ((0:Int),true)|some m=>Sum.inl m:Sum Int (Int×Bool))with|.inl a7=>_|.inr r0=>_)=_;cases oV (onW X Y j z len) (stW X Y j z len) len 0 0<;>rfl
 ·intro again k m Q N O E;have I:(k+1)%len<len:=Nat.mod_lt _ (by omega);obtain⟨a1,a2,_,_⟩:=hq k N;obtain⟨b1,b2,_,_⟩:=hq _ I;dsimp only;rw[Hd N (by omega),jV,jV];refine Ok.cd (fun _=>?_) (fun h=>by have:=dcF h;omega);refine Ok.gd (by rw[aR];exact decide_eq_true N) (Ok.gd (by simp;omega) (Ok.gd (by rw[aR];exact decide_eq_true I) ?_));refine Ok.bd (lk (by omega) (by omega) a1 h5) fun ax J=>Ok.bd (lk (by omega) (by omega) a2 h6) fun ay C=>Ok.bd (lk (by omega) (by omega) b1 h5) fun bx M=>Ok.bd (lk (by omega) (by omega) b2 h6) fun by' D=>?_
  refine Ok.bd (oa (by omega) (by omega) J D) fun u1 T=>Ok.bd (oa (by omega) (by omega) C M) fun u2 U=>Ok.bd (lk (by omega) (by omega) T U) fun u3 a0=>?_
  refine Ok.bde (u5 (by omega) (by omega) a0) ?_;have a3:(X k-j)*(Y ((k+1)%len)-z)-(Y k-z)*(X ((k+1)%len)-j)=crQ (X k-j) (Y k-z) (X ((k+1)%len)-j) (Y ((k+1)%len)-z):=rfl;rw[a3,AS];refine Ok.bd (R:=fun o=>(o=Sum.inr ((0:Int),true)/\onW X Y j z len k=true)\/(o=Sum.inl ()/\onW X Y j z len k=false)) ?_ ?_
  ·refine Ok.cd (fun hc=>?_) (fun hc=>aw.2 (.inr ⟨rfl,?_⟩))
   ·refine Ok.bd (oa (by omega) (by omega) J M) fun w1 a4=>Ok.bd (oa (by omega) (by omega) C D) fun w2 a5=>Ok.bd (sQ (by omega) (by omega) a4 a5) fun w3 a6=>?_
    refine Ok.bde (u5 (by omega) (by omega) a6) ?_;have hc:=dcT hc;refine Ok.cd (fun hd=>aw.2 (.inl ⟨rfl,?_⟩)) (fun hd=>aw.2 (.inr ⟨rfl,?_⟩))
    ·exact decide_eq_true ⟨hc,DB.1 (dcT hd)⟩
    ·exact decide_eq_false fun q=>dcF hd (DB.2 q.2)
   ·exact decide_eq_false fun q=>dcF hc q.1
  ·rintro o (⟨rfl,ho⟩|⟨rfl,ho⟩)
   ·exact aw.2 (O ho)
   ·refine Ok.bde (u5 (by omega) (by omega) C) (Ok.bde (u5 (by omega) (by omega) D) ?_);exact ER (E ho)
 ·intro again m;dsimp only;have:decide ((len:Int)<(len:Int))=false:=by simp
  rw[this];rfl
end Go.L


set_option linter.unusedVariables false
namespace Go.L
open Go Go.Eng
def Bd1(r:Rat):Prop:=∃p q:Int,r=Rat.divInt p q/\0<q/\q<=1000000000000000/\ -100000000000000000000000<=p/\p<=100000000000000000000000
theorem Bd1.neg{r:Rat}(h:Bd1 r):Bd1 (-r):=by
 obtain⟨p,q,h1,h2,j,m,z⟩:=h;exact⟨-p,q,by rw[h1,Rat.neg_divInt],h2,j,by omega,by omega⟩
def Bd(r:Rat)(i:Nat):Prop:=∃p q:Int,r=Rat.divInt p q/\0<q/\q<=1000000000000000^i/\ -(i*100000000*1000000000000000^i)<=p/\p<=i*100000000*1000000000000000^i
theorem Fs{i:Nat}(h:i<=56):(1000000000000000:Int)^i<=1000000000000000^56:=by
 obtain⟨j,m⟩:∃j,56=i+j:=⟨56-i,by omega⟩;rw[show(1000000000000000:Int)^56=1000000000000000^i*1000000000000000^j by rw[<-Int.pow_add,<-m]];have h1:(1:Int)<=1000000000000000^j:=Int.pow_pos (by omega);have h2:(0:Int)<1000000000000000^i:=Int.pow_pos (by omega);have:=mlT h1 (Int.le_of_lt h2);omega
theorem Jd:(5600000000:Int)*1000000000000000^56<pB 95:=dcT (by kernel_rfl)
theorem Bd.len{nn dn:Bool}{ng m:List Int}{r:Rat}{i j:Nat}(h:Bd r i)(z:i<=56)(q:QL nn ng dn m r j):QL nn ng dn m r 95:=by
 obtain⟨p,d,h1,h2,C,D,E⟩:=h;have hp:=Fs z;have hb:=Jd;have I:(0:Int)<1000000000000000^i:=Int.pow_pos (by omega);have hm:(i:Int)*100000000*1000000000000000^i<=5600000000*1000000000000000^56:=Int.mul_le_mul (by omega) hp (by omega) (by omega);generalize (i:Int)*100000000*1000000000000000^i=M at*;generalize (1000000000000000:Int)^i=P at*;generalize (1000000000000000:Int)^56=R at*;exact QL.tight q h1 h2 (by omega) (by omega) (by omega)
end Go.L


set_option linter.all false
namespace Go.L
open Go Go.Eng
def h2(A:Int):Rat:=Rat.divInt A 2
end Go.L


set_option linter.all false
namespace Go.L
open Go Go.Eng
abbrev T4:=Bool×List Int×Bool×List Int
abbrev T12:=Bool×List Int×Bool×List Int×Bool×List Int×Bool×List Int×Bool×List Int×Bool×List Int
def rs(s:T4):aj:=aj.mk (ah.mk s.1 s.2.1) (ah.mk s.2.2.1 s.2.2.2)
def r1(o:T12):aj:=aj.mk (ah.mk o.1 o.2.1) (ah.mk o.2.2.1 o.2.2.2.1)
def r2(o:T12):aj:=aj.mk (ah.mk o.2.2.2.2.1 o.2.2.2.2.2.1) (ah.mk o.2.2.2.2.2.2.1 o.2.2.2.2.2.2.2.1)
def r3(o:T12):aj:=aj.mk (ah.mk o.2.2.2.2.2.2.2.2.1 o.2.2.2.2.2.2.2.2.2.1) (ah.mk o.2.2.2.2.2.2.2.2.2.2.1 o.2.2.2.2.2.2.2.2.2.2.2)
end Go.L


set_option linter.all false
namespace Go.L
open Go Go.Eng
def okL(level:Int):Prop:=level.tmod 2≠0/\ -2097153<=level/\level<=2097153
theorem Iw{w h:Nat}(hw:2<=w)(j:2<=h)(hm:w*h<=40):2*((w-1)*(h-1))<=56:=by
 have h1:w*2<=w*h:=Nat.mul_le_mul_left w j;have h2:2*h<=w*h:=Nat.mul_le_mul_right h hw;have:∀w,w<21->∀h,h<21->2<=w->2<=h->w*h<=40->2*((w-1)*(h-1))<=56:=by decide
 exact this w (by omega) h (by omega) hw j hm
end Go.L


set_option linter.all false
namespace Go.L
open Go Go.Eng
theorem nn{a:Rat}(h:a≠0):(0< -a)↔¬0<a:=by constructor<;>intro k<;>grind
end Go.L


set_option linter.all false
namespace Go.L
open Go Go.Eng
theorem FZ{g:ak}{w h:Nat}:(gY g w h).length<=2*((w-1)*(h-1)):=by
 have:=List.length_filter_le (oX g.Z) (nQ g.Width (w-1) (h-1));rw[uO,Nat.mul_assoc]at this;exact this
def xX(c level:Int):Int:=if c≠0 then c else if level.tmod 2=0 then 1 else if level< -2097153 then 2 else if 2097153<level then 2 else 0
theorem IF{α:Type}{c level:Int}:(cdO ((c:Int)!=0) (some c) (cdO (((level.tmod 2):Int)==0) (some 1) (cdO (decide (level<(-2097153))) (some 2) (cdO (decide (level>2097153)) (some 2) (some 0)))):Option Int)=some (xX c level):=by
 unfold xX;by_cases m:c=0
 ·subst m;by_cases h1:level.tmod 2=0
  ·rw[h1];rfl
  ·rw[show(level.tmod 2==0)=false by simpa using h1,if_neg (by simp),if_neg h1];by_cases h2:level< -2097153
   ·rw[decide_eq_true h2,if_pos h2];rfl
   ·rw[decide_eq_false h2,if_neg h2];by_cases j:level>2097153
    ·rw[decide_eq_true j,if_pos j];rfl
    ·rw[decide_eq_false j,if_neg j];rfl
 ·rw[show(c !=0)=true by simpa using m,if_pos m];rfl
theorem FK(g:ak)(level:Int):gQ 20000 g level=some (xX (mJ g) level):=by
 unfold gQ;rw[Fl (by omega)];exact IF (α:=Int)
theorem yP(g:ak)(level:Int):fi 20000 g level=some (xX (mJ g) level):=by
 unfold fi;rw[DT (by omega)];exact IF (α:=Int)
theorem Em{g:ak}{level:Int}(h:xX (mJ g) level=0):mJ g=0/\okL level:=by
 unfold xX at h;split at h
 ·omega
 ·rename_i j;split at h
  ·omega
  ·rename_i h1;split at h
   ·omega
   ·split at h
    ·omega
    ·exact⟨by omega,h1,by omega,by omega⟩
end Go.L


set_option linter.all false
namespace Go.L
open Go Go.Eng
section
variable{γ:Type}{κ:γ->Int}
abbrev ltK(κ:γ->Int):γ->γ->Bool:=fun x y=>decide (κ x<κ y)
theorem ya{lt lt':γ->γ->Bool}{x:γ}:∀{l:List γ},(∀y,y∈l->lt y x=lt' y x)->mU lt x l=mU lt' x l
 |[],_=>rfl
 |y::l,h=>by
  unfold mU;rw[h y (by simp),ya (l:=l) fun z j=>h z (List.mem_cons_of_mem _ j)]
theorem xC{lt:γ->γ->Bool}{x z:γ}:∀{l:List γ},z∈mU lt x l↔z=x\/z∈l
 |[]=>by simp[mU]
 |y::l=>by
  unfold mU;split
  ·rw[List.mem_cons,xC (l:=l),List.mem_cons];constructor
   ·rintro(h|h|h)
    ·exact .inr (.inl h)
    ·exact .inl h
    ·exact .inr (.inr h)
   ·rintro(h|h|h)
    ·exact .inr (.inl h)
    ·exact .inl h
    ·exact .inr (.inr h)
  ·rw[List.mem_cons]
theorem ik{lt:γ->γ->Bool}{z:γ}:∀{l:List γ},z∈hU lt l↔z∈l
 |[]=>Iff.rfl
 |x::l=>by unfold hU;rw[xC,ik (l:=l),List.mem_cons]
theorem AF{lt:γ->γ->Bool}{x:γ}:∀{l:List γ},(mU lt x l).length=l.length+1
 |[]=>rfl
 |y::l=>by
  unfold mU;split
  ·rw[List.length_cons,AF (l:=l),List.length_cons]
  ·rw[List.length_cons]
theorem lP{lt:γ->γ->Bool}:∀{l:List γ},(hU lt l).length=l.length
 |[]=>rfl
 |x::l=>by unfold hU;rw[AF,lP (l:=l),List.length_cons]
theorem wK{lt lt':γ->γ->Bool}:∀{l:List γ},(∀x y,x∈l->y∈l->lt x y=lt' x y)->hU lt l=hU lt' l
 |[],_=>rfl
 |x::l,h=>by
  unfold hU;rw[wK (l:=l) fun y z j m=>h y z (List.mem_cons_of_mem _ j) (List.mem_cons_of_mem _ m)];exact ya fun y j=>h y x (List.mem_cons_of_mem _ (ik.1 j)) (by simp)
theorem Dv{x:γ}:∀{l:List γ},l.Pairwise (fun a b=>κ a<κ b)->(∀y,y∈l->κ y≠κ x)->(mU (ltK κ) x l).Pairwise (fun a b=>κ a<κ b)
 |[],_,_=>by simp[mU]
 |y::l,h,hx=>by
  unfold mU;rw[List.pairwise_cons]at h;have p:=hx y (by simp);by_cases m:κ y<κ x
  ·rw[if_pos (decide_eq_true m),List.pairwise_cons];refine⟨fun z j=>?_,Dv h.2 fun z j=>hx z (List.mem_cons_of_mem _ j)⟩;rcases xC.1 j with rfl|j
   ·exact m
   ·exact h.1 z j
  ·rw[if_neg (by simpa [ltK]using m),List.pairwise_cons];refine⟨fun z j=>?_,List.pairwise_cons.2 h⟩;rcases List.mem_cons.1 j with rfl|j
   ·omega
   ·have:=h.1 z j;omega
theorem so:∀{l:List γ},l.Pairwise (fun a b=>κ a≠κ b)->(hU (ltK κ) l).Pairwise (fun a b=>κ a<κ b)
 |[],_=>.nil
 |x::l,h=>by
  rw[List.pairwise_cons]at h;exact Dv (so h.2) fun y j=>(fun e=>h.1 y (ik.1 j) e.symm)
theorem zl[DecidableEq γ]{cmp:γ->γ->Option Int}{l:List γ}(hs:∀x y,x∈l->y∈l->∃c,cmp x y=some c/\(c<0↔κ x<κ y))(inj:∀x y,x∈l->y∈l->κ x=κ y->x=y):wA cmp l=some (hU (ltK κ) l):=by
 have hc:∀x y,x∈l->y∈l->(cfO cmp x y<0↔κ x<κ y):=fun x y hx j=>by
  obtain⟨c,h1,h2⟩:=hs x y hx j;unfold cfO;rw[h1];exact h2
 have ok:Ar cmp l=true:=by
  unfold Ar;rw[List.all_eq_true];intro x hx;rw[Bool.and_eq_true,List.all_eq_true];refine⟨decide_eq_true (by rw[hc x x hx hx];omega),fun y j=>?_⟩;rw[Bool.and_eq_true];refine⟨by obtain⟨c,h1,_⟩:=hs x y hx j;rw[h1];rfl,?_⟩;rw[Bool.and_eq_true,List.all_eq_true];refine⟨decide_eq_true ?_,fun z m=>?_⟩
  ·rw[hc x y hx j,hc y x j hx];by_cases h:κ x=κ y
   ·exact .inr (.inr (inj x y hx j h))
   ·omega
  ·rw[Bool.and_eq_true];refine⟨decide_eq_true ?_,decide_eq_true ?_⟩
   ·rw[hc x y hx j,hc y z j m,hc x z hx m];omega
   ·rw[hc x y hx j,hc y z j m,hc x z hx m];omega
 unfold wA;rw[if_pos ok,wK (lt':=ltK κ) fun x y hx j=>by rw[decide_eq_decide];exact hc x y hx j]
end
end Go.L

