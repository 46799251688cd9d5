import Derived.Test.YtglimpjlhfjgdaaGreatSldLD
import Derived.Test.YtglimpjlhfjgdaaGreatPl6Slds
import Derived.KernelRfl
import Derived.Test.YtglimpjlhfjgdaaGreatPl6Slds
set_option linter.all false
namespace Go.L
open Go Go.Eng
def rY(z:Int):Bool:=decide (z< -1048576)||decide (z>1048576)
theorem Fy{z:Int}:(cdO (decide (z<(-1048576))) (some true) (some (decide (z>1048576))):Option Bool)=some (rY z):=by
 unfold rY;cases decide (z< -1048576)<;>rfl
theorem Cd{n:Nat}{z:Int}:gX n z=some (rY z):=Fy
theorem IJ{n:Nat}{z:Int}:pc n z=some (rY z):=Fy
def pO(z:Int):Bool:=(z != -2147483648)&&rY z
theorem Lp(n:Nat)(z:Int):iv n z=some (pO z):=by
 unfold iv pO;rw[Cd];cases (z != -2147483648)<;>rfl
theorem JF{n:Nat}{s:List Int}(j:s.length<n)(m:s.length<=9223372036854775806):bh n s=some (s.any pO):=by
 unfold bh;have:bK n s=some (og pO s):=qB (fun x=>Lp n x) j m;rw[this];show some (decide (og pO s>=0))=_;rw[vV]
theorem Ic{n:Nat}{s:List Int}{v:Int}(j:s.length<n)(m:s.length<=9223372036854775806):bs n s v=some (s.any fun z=>v==z):=by
 unfold bs;have:gp n s v=some (og (fun z=>v==z) s):=BX j m;rw[this];show some (decide (og (fun z=>v==z) s>=0))=_;rw[vV]
def yq(a:Int):Bool:=decide (2<=a)&&decide (a<=64)
structure Dim (g:aj):Prop where
 w:2<=g.Width/\g.Width<=64
 h:2<=g.Height/\g.Height<=64
 s:2<=g.Step/\g.Step<=65536
 e:g.Step.tmod 2=0
 x:rY g.X0=false
 y:rY g.Y0=false
theorem JB{w h:Int}(hw:2<=w/\w<=64)(j:2<=h/\h<=64):4<=w*h/\w*h<=4096:=by
 have h1:=Int.mul_le_mul hw.2 j.2 (by omega) (by omega);have h2:=Int.mul_le_mul hw.1 j.1 (by omega) (by omega);omega
open Classical in
noncomputable def pF(g:aj):Int:=if Dim g then(if (g.Z.length:Int)=g.Width*g.Height then(if g.Z.any pO=true then 2 else 0)else 4)else 2
theorem xu{g:aj}(h:¬Dim g):pF g=2:=by unfold pF;rw[if_neg h]
theorem FY{n:Nat}{a:Int}:dT n a=some (yq a):=by
 unfold dT yq;have e:decide (a>=2)=decide (2<=a):=rfl;rw[e];cases decide (2<=a)<;>rfl
theorem sZ{n:Nat}(C:4096<n)(g:aj):fE n g=some (pF g):=by
 apply Ok.eq;unfold fE;refine Ok.bde FY (Ok.cd (fun h=>aC.2 (xu fun d=>?_).symm) (fun h1=>Ok.bde FY (Ok.cd (fun h=>aC.2 (xu fun d=>?_).symm) (fun h2=>Ok.cd (fun h=>aC.2 (xu fun d=>?_).symm) (fun j=>Ok.cd (fun h=>aC.2 (xu fun d=>?_).symm) (fun m=>Ok.cd (fun h=>aC.2 (xu fun d=>?_).symm) (fun p=>Ok.bde Cd (Ok.cd (fun h=>aC.2 (xu fun d=>?_).symm) (fun q=>Ok.bde Cd (Ok.cd (fun h=>aC.2 (xu fun d=>?_).symm) (fun z=>?_)))))))))))
 ·have:=d.w;simp[yq]at h;omega
 ·have:=d.h;simp[yq]at h;omega
 ·have:=d.s;have:=dcT h;omega
 ·have:=d.s;have:=dcT h;omega
 ·have:=d.e;simp[this]at h
 ·rw[d.x]at h;cases h
 ·rw[d.y]at h;cases h
 have j:=dcF j;have m:=dcF m;have d:Dim g:=⟨by simp[yq]at h1;omega,by simp[yq]at h2;omega,by omega,by simpa using p,q,z⟩;have D:=JB d.w d.h;rw[wrap64_in (n:=g.Width*g.Height) (by omega) (by omega)];unfold pF;rw[if_pos d];refine Ok.cd (fun h=>aC.2 ?_) (fun h=>?_)
 ·rw[if_neg];simpa using h
 ·have h:(g.Z.length:Int)=g.Width*g.Height:=by simpa using h
  rw[if_pos h];refine Ok.bde (JF (by omega) (by omega)) (Ok.cd (fun h=>aC.2 ?_) (fun h=>aC.2 ?_))
  ·rw[if_pos h]
  ·rw[if_neg (by rw[h];decide)]
theorem CJ{g:aj}(h:pF g=0):Dim g/\(g.Z.length:Int)=g.Width*g.Height/\g.Z.any pO=false:=by
 unfold pF at h;split at h
 ·rename_i d;split at h
  ·rename_i e;split at h
   ·omega
   ·rename_i f;exact⟨d,e,by simpa using f⟩
  ·omega
 ·omega
def B2{α:Type}(x y:Option α)(Q:α->Prop):Prop:=∃r,x=some r/\y=some r/\Q r
section
variable{α β:Type}{Q:α->Prop}{R:β->Prop}{x y:Option β}{f g:β->Option α}
theorem B2.bde{b:β}(j:x=some b)(m:y=some b)(k:B2 (f b) (g b) Q):B2 (bdO x f) (bdO y g) Q:=by subst j m;exact k
theorem B2.bd(h:B2 x y R)(k:∀b,R b->B2 (f b) (g b) Q):B2 (bdO x f) (bdO y g) Q:=by
 obtain⟨b,h1,h2,j⟩:=h;exact B2.bde h1 h2 (k b j)
theorem B2.cd{b:Bool}{t j e m:Option α}(h:b=true->B2 t j Q)(k:b=false->B2 e m Q):B2 (cdO b t e) (cdO b j m) Q:=by
 cases b
 ·exact k rfl
 ·exact h rfl
theorem B2.of{x:Option α}(h:Ok x Q):B2 x x Q:=by obtain⟨r,h1,h2⟩:=h;exact⟨r,h1,h1,h2⟩
end
end Go.L


set_option linter.all false
namespace Go.L
open Go Go.Eng
def fh(W:Int)(j i:Nat):List (A3 Int):=[A3.mk (MR ((MR ((j:Int)*W))+(i:Int))) (MR ((MR ((MR ((j:Int)*W))+(i:Int)))+1)) (MR ((MR ((MR ((MR ((j:Int)*W))+(i:Int)))+W))+1)),A3.mk (MR ((MR ((j:Int)*W))+(i:Int))) (MR ((MR ((MR ((MR ((j:Int)*W))+(i:Int)))+W))+1)) (MR ((MR ((MR ((j:Int)*W))+(i:Int)))+W))]
def A0(W:Int)(w j:Nat):List (A3 Int):=(List.range w).flatMap (fh W j)
def cJ(W:Int)(w h:Nat):List (A3 Int):=(List.range h).flatMap (A0 W w)
theorem wm{W:Int}{w j:Nat}:(List.range (w+1)).flatMap (fh W j)=(List.range w).flatMap (fh W j)++fh W j w:=by rw[List.range_succ,List.flatMap_append];simp
theorem we{W:Int}{w h:Nat}:cJ W w (h+1)=cJ W w h++A0 W w h:=by unfold cJ;rw[List.range_succ,List.flatMap_append];simp
theorem vR{W:Int}{j:Nat}:∀w:Nat,((List.range w).flatMap (fh W j)).length=2*w
 |0=>rfl
 |w+1=>by rw[wm,List.length_append,vR w];simp[fh];omega
theorem sS{W:Int}{w:Nat}:∀h:Nat,(cJ W w h).length=2*w*h
 |0=>rfl
 |h+1=>by rw[we,List.length_append,sS h,A0,vR,Nat.mul_succ]
def gQ(Z:List Int)(t:A3 Int):Bool:=(gt Z t.e0 != -2147483648)&&((gt Z t.e1 != -2147483648)&&(gt Z t.e2 != -2147483648))
theorem vy{L:List (A3 Int)}{p:A3 Int->Bool}{k:Nat}(h:k<L.length):(L.take (k+1)).filter p=(L.take k).filter p++(if p (L.getD k default)=true then[L.getD k default]else[]):=by
 rw[List.take_add_one,geT h,List.filter_append];have:L.getD k default=L[k]:=by simp[List.getD,geT h]
 rw[this];by_cases hp:p L[k]=true
 ·simp[hp]
 ·simp[hp]
theorem KE{Z:List Int}{L:List (A3 Int)}{n:Nat}(J:2<n)(M:L.length=2)(out:List (A3 Int))(N:out.length<=100000)
  (E:∀k,k<2->inR (L.getD k default).e0 Z.length=true/\inR (L.getD k default).e1 Z.length=true/\inR (L.getD k default).e2 Z.length=true):
  aQ (α:=List (A3 Int)×Int) (β:=List (A3 Int)) n (fun q (m,j)=>(
   cdO (decide (j<2)) (gdO (inR j L.length) (gdO (inR (gt L j).e0 Z.length) (cdO ((gt Z (gt L j).e0:Int)!=(-2147483648)) (gdO (inR (gt L j).e1 Z.length) (cdO ((gt Z (gt L j).e1:Int)!=(-2147483648)) (gdO (inR (gt L j).e2 Z.length) (cdO ((gt Z (gt L j).e2:Int)!=(-2147483648)) (
    gdO (decide ((m.length+1)*24<=140737488355328)) (gdO (decide (m.length+1<=4611686018427387904)) (q (m++[gt L j],MR (j+1))))) (q (m,MR (j+1))))) (q (m,MR (j+1))))) (q (m,MR (j+1)))))) (some m))) (out,0)=some (out++L.filter (gQ Z)):=by
 apply Ok.eq;refine iB (len:=2) (fun k c=>c=out++(L.take k).filter (gQ Z)) (by omega) (by omega) (by simp) ?_ ?_
 ·rintro again k c hk rfl D;obtain⟨r0,r1,r2⟩:=E k hk;have z:=vy (L:=L) (p:=gQ Z) (k:=k) (by omega);have I:(out++(L.take k).filter (gQ Z)).length<=100002:=by
   have:=List.length_filter_le (gQ Z) (L.take k);rw[List.length_take]at this;rw[List.length_append];omega
  rw[<-cZ]at r0 r1 r2 z;have no:gQ Z (gt L (k:Int))=false->Ok (again (out++(L.take k).filter (gQ Z),MR ((k:Int)+1))) (fun o=>o=out++L.filter (gQ Z)):=fun h=>D _ (by rw[z,h];simp)
  refine Ok.cd (fun _=>?_) (fun h=>by have:=dcF h;omega);refine Ok.gd (by rw[bf];exact decide_eq_true (by omega)) (Ok.gd r0 ?_);refine Ok.cd (fun C=>?_) (fun h=>no (by unfold gQ;rw[h];rfl));refine Ok.gd r1 (Ok.cd (fun h1=>?_) (fun h=>no (by unfold gQ;rw[C,h];rfl)));refine Ok.gd r2 (Ok.cd (fun h2=>?_) (fun h=>no (by unfold gQ;rw[C,h1,h];rfl)));refine Ok.gd (decide_eq_true (by omega)) (Ok.gd (decide_eq_true (by omega)) (D _ ?_));rw[z,if_pos (by unfold gQ;rw[C,h1,h2];rfl),List.append_assoc]
 ·rintro again c rfl;refine Ok.cd (fun h=>by simp at h) (fun _=>aC.2 ?_);rw[List.take_of_length_le (by omega)]
structure Gd (g:aj) (w h:Nat):Prop where
 dim:Dim g
 W:g.Width=(w:Int)
 H:g.Height=(h:Int)
 w1:2<=w/\w<=64
 h1:2<=h/\h<=64
 m:g.Z.length=w*h
theorem J6{g:aj}(h:pF g=0):∃w h:Nat,Gd g w h:=by
 obtain⟨d,e,_⟩:=CJ h;have:=d.w;have:=d.h;have j:g.Width=((g.Width.toNat:Nat):Int):=by omega
 have hH:g.Height=((g.Height.toNat:Nat):Int):=by omega
 refine⟨g.Width.toNat,g.Height.toNat,d,j,hH,by omega,by omega,?_⟩;have e2:g.Width*g.Height=((g.Width.toNat*g.Height.toNat:Nat):Int):=by rw[Int.natCast_mul,<-j,<-hH]
 omega
theorem zW{w h j i m:Nat}(hm:m=w*h)(hw:w<=64)(p:h<=64)(q:j<h-1)(hi:i<w-1)(k:Nat)(hk:k<2):
  inR ((fh (w:Int) j i).getD k default).e0 m=true/\inR ((fh (w:Int) j i).getD k default).e1 m=true/\inR ((fh (w:Int) j i).getD k default).e2 m=true:=by
 have h1:(j+2)*w<=h*w:=Nat.mul_le_mul_right w (by omega);have h2:h*w<=64*64:=Nat.mul_le_mul p hw;rw[Nat.mul_comm h w,Nat.add_mul]at h1;rw[Nat.mul_comm h w]at h2;have e:((j:Int)*(w:Int))=((j*w:Nat):Int):=(Int.natCast_mul _ _).symm;unfold fh;rw[e];generalize j*w=J at*;generalize w*h=M at*;rw[wrap64_in (n:=(J:Int)) (by omega) (by omega),wrap64_in (n:=(J:Int)+(i:Int)) (by omega) (by omega),wrap64_in (n:=(J:Int)+(i:Int)+1) (by omega) (by omega),wrap64_in (n:=(J:Int)+(i:Int)+(w:Int)) (by omega) (by omega),wrap64_in (n:=(J:Int)+(i:Int)+(w:Int)+1) (by omega) (by omega)];simp only[iK];rcases (show k=0\/k=1 by omega)with rfl|rfl
 ·show(0<=(J:Int)+i/\(J:Int)+i<m)/\(0<=(J:Int)+i+1/\(J:Int)+i+1<m)/\(0<=(J:Int)+i+w+1/\(J:Int)+i+w+1<m);omega
 ·show(0<=(J:Int)+i/\(J:Int)+i<m)/\(0<=(J:Int)+i+w+1/\(J:Int)+i+w+1<m)/\(0<=(J:Int)+i+w/\(J:Int)+i+w<m);omega
def jd(g:aj)(w h:Nat):List (A3 Int):=(cJ g.Width (w-1) (h-1)).filter (gQ g.Z)
theorem KG{n:Nat}(T:200<n){g:aj}{w h:Nat}(z:Gd g w h):gP n g=some (jd g w h):=by
 have hw:=z.w1;have I:=z.h1;have hH:=z.H;have J:=z.W;apply Ok.eq;unfold gP;rw[hH,wrap64_in (n:=(h:Int)-1) (by omega) (by omega),wrap64_in (n:=g.Width-1) (by omega) (by omega)];refine Ok.bd (R:=fun o=>o=jd g w h) ?_ (fun o C=>aC.2 C);refine iB (len:=h-1) (fun j c=>c=(cJ g.Width (w-1) j).filter (gQ g.Z)) (by omega) (by omega) rfl ?_ ?_
 ·rintro again j c M rfl N;have D:=sS (W:=g.Width) (w:=w-1) j;have O:2*(w-1)*j<=2*63*63:=Nat.mul_le_mul (by omega) (by omega);refine Ok.cd (fun _=>?_) (fun h=>by have:=dcF h;omega);refine Ok.bd (R:=fun o=>o=(cJ g.Width (w-1) (j+1)).filter (gQ g.Z)) ?_ (fun o C=>N _ C);refine iB (len:=w-1) (fun i c=>c=(cJ g.Width (w-1) j++(List.range i).flatMap (fh g.Width j)).filter (gQ g.Z)) (by omega) (by omega) (by simp) ?_ ?_
  ·rintro q i c hi rfl E;refine Ok.cd (fun _=>?_) (fun h=>by have:=dcF h;omega);have hlen:=List.length_filter_le (gQ g.Z) (cJ g.Width (w-1) j++(List.range i).flatMap (fh g.Width j));rw[List.length_append,D,vR]at hlen;refine Ok.bde (KE (L:=fh g.Width j i) (Z:=g.Z) (by omega) rfl _ (by omega) (fun k hk=>by rw[J];exact zW z.m hw.2 I.2 M hi k hk)) ?_;refine E _ ?_;rw[wm,<-List.append_assoc,List.filter_append (p:=gQ g.Z) (cJ g.Width (w-1) j++(List.range i).flatMap (fh g.Width j))]
  ·rintro q c rfl;refine Ok.cd (fun h=>by have:=dcT h;omega) (fun _=>aC.2 ?_);rw[we];rfl
 ·rintro again c rfl;exact Ok.cd (fun h=>by have:=dcT h;omega) (fun _=>aC.2 rfl)
theorem HA{W:Int}{w:Nat}{t:A3 Int}:∀{h:Nat},t∈cJ W w h->∃j i k,j<h/\i<w/\k<2/\t=(fh W j i).getD k default:=by
 intro h m;unfold cJ at m;obtain⟨j,p,m⟩:=List.mem_flatMap.1 m;unfold A0 at m;obtain⟨i,hi,m⟩:=List.mem_flatMap.1 m;rw[List.mem_range]at p hi;obtain⟨k,hk,e⟩:=List.getElem_of_mem m;refine⟨j,i,k,p,hi,hk,?_⟩;simp only[List.getD,geT hk,Option.getD_some];exact e.symm
theorem xi{g:aj}{w h:Nat}(p:Gd g w h){t:A3 Int}(q:t∈cJ g.Width (w-1) (h-1)):inR t.e0 g.Z.length=true/\inR t.e1 g.Z.length=true/\inR t.e2 g.Z.length=true:=by
 obtain⟨j,i,k,z,hi,hk,rfl⟩:=HA q;rw[p.W];exact zW p.m p.w1.2 p.h1.2 z hi k hk
end Go.L


set_option linter.all false
namespace Go.L
open Go Go.Eng
theorem iJ{l:List Int}{k:Nat}:gt l (k:Int)=l.getD k 0:=cZ
theorem pr{k:Nat}(h:k<=4000000000):MR ((k:Int)+1)=((k+1:Nat):Int):=by rw[wrap64_in (by omega) (by omega)];omega
theorem qh{k:Nat}(h:0<k)(h2:k<=4000000000):MR ((k:Int)-1)=((k-1:Nat):Int):=by rw[wrap64_in (by omega) (by omega)];omega
theorem qO{n:Nat}{g:List Int}(D:1000<=n)(q:Dig g)(E:g.length<=900):Ok (dC n g) fun r=>Can r/\vl r=vl g:=by
 unfold dC;refine Ok.bd (R:=fun r=>Can r/\vl r=vl g) ?_ (fun I h=>aC.2 h);refine fu (fun l:List Int=>Dig l/\vl l=vl g/\l.length<=g.length) (fun l=>l.length) ?_ n g ⟨q,rfl,Nat.le_refl _⟩ (by omega);rintro again l ⟨h1,h2,J⟩ z;refine Ok.cd (fun h=>?_) (fun h=>?_)
 ·have m:0<l.length:=by simpa using h
  rw[qh m (by omega)];refine Ok.gd (by rw[bf];simp;omega) ?_;rw[iJ];refine Ok.cd (fun h=>?_) (fun h=>?_)
  ·refine Ok.gd (CX.2 (by omega)) ?_;have e:(l.drop (0:Int).toNat).take (((l.length-1:Nat):Int).toNat-(0:Int).toNat)=l.take (l.length-1):=by simp
   rw[e];have C:l.getD (l.length-1) 0=0:=by simpa using h
   refine z _ ⟨tb h1 _,?_,?_⟩ ?_
   ·rw[BG (by omega) ?_,h2];intro j M;by_cases p:j=l.length-1
    ·rw[p];exact C
    ·simp[List.getD,List.getElem?_eq_none (by omega:l.length<=j)]
   ·rw[List.length_take];omega
   ·rw[List.length_take];omega
  ·refine aC.2 ⟨FM h1 (.inr ?_),h2⟩;simpa using h
 ·have:l=[]:=by simpa using h
  subst this;exact aC.2 ⟨trivial,h2⟩
theorem ia{n:Nat}{g:List Int}(j:1000<=n)(neg:Bool)(m:Dig g)(p:g.length<=900):Ok (bF n neg g) fun z=>isI z.Negative z.Groups (if neg then-vl g else vl g):=by
 unfold bF;refine Ok.bd (qO j m p) ?_;rintro r ⟨h1,h2⟩;refine Ok.cd (fun h=>?_) (fun h=>?_)
 ·have:r=[]:=by simpa using h
  subst this;refine aC.2 (show isI false [] _ from⟨trivial,(fun h=>absurd h (by decide)),?_⟩);rw[<-h2];cases neg<;>rfl
 ·refine aC.2 ⟨h1,fun _=>?_,?_⟩
  ·rintro rfl;simp at h
  ·rw[<-h2]
theorem nI{n:Nat}{v:Int}(M:1000<=n)(C:0<=v)(N:v<18446744073709551616):Ok (cy n v) fun r=>Can r/\vl r=v/\r.length<=3:=by
 unfold cy;refine Ok.bd (R:=fun r=>Can r/\vl r=v/\r.length<=3) ?_ (fun O h=>aC.2 h);refine fu (fun x:Int×List Int=>Dig x.2/\0<=x.1/\vl x.2+pB x.2.length*x.1=v/\x.2.length<=3/\(x.1=0->Can x.2)) (fun x=>4-x.2.length) ?_ n (v,[]) ⟨tK,C,by show 0+1*v=v;omega,by simp,fun _=>trivial⟩ (by simp;omega);rintro again ⟨m,g⟩ ⟨h1,h2,p,q,z⟩ D;simp only at h1 h2 p q z;have T:=bM h1;have hp:=jo g.length;have E:m<=v:=by
  have:m<=pB g.length*m:=by
   have:=mrT hp h2;omega
  omega
 refine Ok.cd (fun h=>?_) (fun h=>?_)
 ·have hm:0<m:=by simpa using h
  have hlen:g.length<=2:=by
   by_cases h:g.length<=2
   ·exact h
   ·have I:g.length=3:=by omega
    rw[I]at p;have:pB 3=1000000000000000000000000000:=rfl;rw[this]at p;omega
  refine Ok.gd (by simp;omega) (Ok.gd (by simp;omega) ?_);have e1:m.tdiv 1000000000=m / 1000000000:=Int.tdiv_eq_ediv_of_nonneg h2;have e2:m.tmod 1000000000=m%1000000000:=Int.tmod_eq_emod_of_nonneg h2;rw[e1,e2,ba (by omega) (by omega),bP (by omega) (by omega)];have j:0<=m%1000000000/\m%1000000000<1000000000:=by omega
  refine D _ ⟨tL.2 ⟨h1,kV.2 j⟩,by simp only;omega,?_,by simp;omega,fun J=>zq h1 j (by simp only at J;omega)⟩ (by simp;omega);simp only;rw[pW,lK,List.length_append,List.length_singleton,dN];have:m=m%1000000000+1000000000*(m / 1000000000):=by omega
  rw[<-p];grind
 ·have hm:m=0:=by simp at h;omega
  subst hm;exact aC.2 ⟨z rfl,by omega,q⟩
theorem x9{n:Nat}{v:Int}(p:1000<=n)(C:-9223372036854775808<=v)(D:v<=9223372036854775807):Ok (cj n v) fun z=>isI z.Negative z.Groups v:=by
 unfold cj;refine Ok.cd (fun h=>?_) (fun h=>?_)
 ·have j:v<0:=by simpa using h
  have e:aa .u64 (0-aa .u64 v)=-v:=by
   rw[jr,jr,IntKind.wrap_u64,IntKind.wrap_u64];omega
  rw[e];refine Ok.bd (nI p (by omega) (by omega)) ?_;rintro r ⟨h1,h2,q⟩;refine Ok.bd (ia p true h1.dig (by omega)) ?_;intro z m;rw[h2]at m;refine aC.2 ?_;simpa using m
 ·have j:0<=v:=by simpa using h
  rw[ba j (by omega)];refine Ok.bd (nI p (by omega) (by omega)) ?_;rintro r ⟨h1,h2,q⟩;refine Ok.bd (ia p false h1.dig (by omega)) ?_;intro z m;rw[h2]at m;exact aC.2 m
theorem qa{n:Nat}{x:ah}{v:Int}(z:1000<=n)(C:x.Groups.length<=900)(h:isI x.Negative x.Groups v):dM n x=some true:=by
 obtain⟨h1,h2,D⟩:=h;unfold dM;by_cases j:x.Groups=[]
 ·have:x.Negative=false:=by cases p:x.Negative with|false=>rfl|true=>exact absurd j (h2 p)
  rw[j,this];rfl
 ·have m:0<x.Groups.length:=List.length_pos_iff.2 j;have e:(((x.Groups.length:Int):Int)==0)=false:=by simp[j]
  rw[e];show gdO _ _=_;rw[qh m (by omega),bf,iJ];have e1:decide (x.Groups.length-1<x.Groups.length)=true:=by simp;omega
  have e2:(x.Groups.getD (x.Groups.length-1) 0!=0)=true:=by simpa using xf h1 j
  rw[e1,e2];show bdO (aY n x.Groups) _=_;unfold aY;have:bm n x.Groups=some (og (fun g=>decide (g>=1000000000)) x.Groups):=qB (fun x=>rfl) (by omega) (by omega);rw[this];show some (!decide (og _ x.Groups>=0))=_;rw[vV];have:x.Groups.any (fun g=>decide (g>=1000000000))=false:=by
   rw[List.any_eq_false];intro d q;have:=h1.dig d q;simp;omega
  rw[this];rfl
theorem eT{n:Nat}{x:ah}{v:Int}(j:1000<=n)(m:x.Groups.length<=900)(h:isI x.Negative x.Groups v):bl n x=some x.Groups:=by
 unfold bl;rw[qa j m h];rfl
theorem oG{n:Nat}{x:ah}{v:Int}(m:1000<=n)(p:x.Groups.length<=900)(h:isI x.Negative x.Groups v):bg n x=some (sgn v):=by
 unfold bg;rw[eT m p h,Gv h];show cdO _ _ _=_;by_cases j:x.Groups=[]
 ·rw[j];rfl
 ·have e:(((x.Groups.length:Int):Int)==0)=false:=by simp[j]
  rw[e,if_neg j];cases x.Negative<;>rfl
theorem Dh{n:Nat}{l:List Int}{k:Nat}:fM n l (k:Int)=some (l.getD k 0):=by
 unfold fM;by_cases h:k<l.length
 ·have e:decide ((k:Int)<(l.length:Int))=true:=by simp;omega
  rw[e,bf,iJ];have e:decide (k<l.length)=true:=by simpa using h
  rw[e];rfl
 ·have e:decide ((k:Int)<(l.length:Int))=false:=by simp;omega
  rw[e];have:l.getD k 0=0:=by simp[List.getD,List.getElem?_eq_none (by omega:l.length<=k)]
  rw[this];rfl
end Go.L

