import Derived.Test.YtglimpjlhfjgdaaGreatGrdLD
import Derived.Test.YtglimpjlhfjgdaaGreatPl6Grds
import Derived.KernelRfl
import Derived.Test.YtglimpjlhfjgdaaGreatPl6Grds
set_option linter.all false
namespace Go.L
open Go Go.Eng
def sy(z:Int):Bool:=decide (z< -1048576)||decide (z>1048576)
theorem Dq{z:Int}:(cdO (decide (z<(-1048576))) (some true) (some (decide (z>1048576))):Option Bool)=some (sy z):=by
 unfold sy;cases decide (z< -1048576)<;>rfl
theorem Bg{n:Nat}{z:Int}:jc n z=some (sy z):=Dq
theorem DT{n:Nat}{z:Int}:oe n z=some (sy z):=Dq
def u9(z:Int):Bool:=(z != -2147483648)&&sy z
theorem I7(n:Nat)(z:Int):js n z=some (u9 z):=by
 unfold js u9;rw[Bg];cases (z != -2147483648)<;>rfl
theorem Gu{n:Nat}{s:List Int}(j:s.length<n)(m:s.length<=9223372036854775806):bu n s=some (s.any u9):=by
 unfold bu;have:cj n s=some (po u9 s):=rH (fun x=>I7 n x) j m;rw[this];show some (decide (po u9 s>=0))=_;rw[vT]
theorem Hy{n:Nat}{s:List Int}{v:Int}(j:s.length<n)(m:s.length<=9223372036854775806):eK n s v=some (s.any fun z=>v==z):=by
 unfold eK;have:iv n s v=some (po (fun z=>v==z) s):=A4 j m;rw[this];show some (decide (po (fun z=>v==z) s>=0))=_;rw[vT]
def x9(a:Int):Bool:=decide (2<=a)&&decide (a<=64)
structure Dim (g:ak):Prop where
 w:2<=g.Width/\g.Width<=64
 h:2<=g.Height/\g.Height<=64
 s:2<=g.Step/\g.Step<=65536
 e:g.Step.tmod 2=0
 x:sy g.X0=false
 y:sy g.Y0=false
theorem F4{w h:Int}(hw:2<=w/\w<=64)(hh:2<=h/\h<=64):4<=w*h/\w*h<=4096:=by
 have h1:=Int.mul_le_mul hw.2 hh.2 (by omega) (by omega);have h2:=Int.mul_le_mul hw.1 hh.1 (by omega) (by omega);omega
open Classical in
noncomputable def mh(g:ak):Int:=if Dim g then(if (g.Z.length:Int)=g.Width*g.Height then(if g.Z.any u9=true then 2 else 0)else 4)else 2
theorem wH{g:ak}(h:¬Dim g):mh g=2:=by unfold mh;rw[if_neg h]
theorem Di{n:Nat}{a:Int}:fp n a=some (x9 a):=by
 unfold fp x9;have e:decide (a>=2)=decide (2<=a):=rfl;rw[e];cases decide (2<=a)<;>rfl
theorem rQ{n:Nat}(C:4096<n)(g:ak):fI n g=some (mh g):=by
 apply Ok.eq;unfold fI;refine Ok.bde Di (Ok.cd (fun h=>ar.2 (wH fun d=>?_).symm) (fun h1=>Ok.bde Di (Ok.cd (fun h=>ar.2 (wH fun d=>?_).symm) (fun h2=>Ok.cd (fun h=>ar.2 (wH fun d=>?_).symm) (fun j=>Ok.cd (fun h=>ar.2 (wH fun d=>?_).symm) (fun m=>Ok.cd (fun h=>ar.2 (wH fun d=>?_).symm) (fun p=>Ok.bde Bg (Ok.cd (fun h=>ar.2 (wH fun d=>?_).symm) (fun q=>Ok.bde Bg (Ok.cd (fun h=>ar.2 (wH fun d=>?_).symm) (fun z=>?_)))))))))))
 ·have:=d.w;simp[x9]at h;omega
 ·have:=d.h;simp[x9]at h;omega
 ·have:=d.s;have:=dcT h;omega
 ·have:=d.s;have:=dcT h;omega
 ·have:=d.e;simp[this]at h
 ·rw[d.x]at h;cases h
 ·rw[d.y]at h;cases h
 have j:=dcF j;have m:=dcF m;have d:Dim g:=⟨by simp[x9]at h1;omega,by simp[x9]at h2;omega,by omega,by simpa using p,q,z⟩;have D:=F4 d.w d.h;rw[wrap64_in (n:=g.Width*g.Height) (by omega) (by omega)];unfold mh;rw[if_pos d];refine Ok.cd (fun h=>ar.2 ?_) (fun h=>?_)
 ·rw[if_neg];simpa using h
 ·have h:(g.Z.length:Int)=g.Width*g.Height:=by simpa using h
  rw[if_pos h];refine Ok.bde (Gu (by omega) (by omega)) (Ok.cd (fun h=>ar.2 ?_) (fun h=>ar.2 ?_))
  ·rw[if_pos h]
  ·rw[if_neg (by rw[h];decide)]
theorem yw{g:ak}(h:mh g=0):Dim g/\(g.Z.length:Int)=g.Width*g.Height/\g.Z.any u9=false:=by
 unfold mh at h;split at h
 ·rename_i d;split at h
  ·rename_i e;split at h
   ·omega
   ·rename_i f;exact⟨d,e,by simpa using f⟩
  ·omega
 ·omega
def B2{α:Type}(x y:Option α)(Q:α->Prop):Prop:=∃r,x=some r/\y=some r/\Q r
section
variable{α β:Type}{Q:α->Prop}{R:β->Prop}{x y:Option β}{f g:β->Option α}
theorem B2.bde{b:β}(j:x=some b)(m:y=some b)(k:B2 (f b) (g b) Q):B2 (bdO x f) (bdO y g) Q:=by subst j m;exact k
theorem B2.bd(h:B2 x y R)(k:∀b,R b->B2 (f b) (g b) Q):B2 (bdO x f) (bdO y g) Q:=by
 obtain⟨b,h1,h2,j⟩:=h;exact B2.bde h1 h2 (k b j)
theorem B2.cd{b:Bool}{t j e m:Option α}(h:b=true->B2 t j Q)(k:b=false->B2 e m Q):B2 (cdO b t e) (cdO b j m) Q:=by
 cases b
 ·exact k rfl
 ·exact h rfl
theorem B2.of{x:Option α}(h:Ok x Q):B2 x x Q:=by obtain⟨r,h1,h2⟩:=h;exact⟨r,h1,h1,h2⟩
end
end Go.L


set_option linter.all false
namespace Go.L
open Go Go.Eng
def im(W:Int)(j i:Nat):List (A3 Int):=[A3.mk (Jt ((Jt ((j:Int)*W))+(i:Int))) (Jt ((Jt ((Jt ((j:Int)*W))+(i:Int)))+1)) (Jt ((Jt ((Jt ((Jt ((j:Int)*W))+(i:Int)))+W))+1)),A3.mk (Jt ((Jt ((j:Int)*W))+(i:Int))) (Jt ((Jt ((Jt ((Jt ((j:Int)*W))+(i:Int)))+W))+1)) (Jt ((Jt ((Jt ((j:Int)*W))+(i:Int)))+W))]
def Dt(W:Int)(w j:Nat):List (A3 Int):=(List.range w).flatMap (im W j)
def cZ(W:Int)(w h:Nat):List (A3 Int):=(List.range h).flatMap (Dt W w)
theorem xr{W:Int}{w j:Nat}:(List.range (w+1)).flatMap (im W j)=(List.range w).flatMap (im W j)++im W j w:=by rw[List.range_succ,List.flatMap_append];simp
theorem wM{W:Int}{w h:Nat}:cZ W w (h+1)=cZ W w h++Dt W w h:=by unfold cZ;rw[List.range_succ,List.flatMap_append];simp
theorem wc{W:Int}{j:Nat}:∀w:Nat,((List.range w).flatMap (im W j)).length=2*w
 |0=>rfl
 |w+1=>by rw[xr,List.length_append,wc w];simp[im];omega
theorem pT{W:Int}{w:Nat}:∀h:Nat,(cZ W w h).length=2*w*h
 |0=>rfl
 |h+1=>by rw[wM,List.length_append,pT h,Dt,wc,Nat.mul_succ]
def iP(Z:List Int)(t:A3 Int):Bool:=(gt Z t.e0 != -2147483648)&&((gt Z t.e1 != -2147483648)&&(gt Z t.e2 != -2147483648))
theorem vq{L:List (A3 Int)}{p:A3 Int->Bool}{k:Nat}(h:k<L.length):(L.take (k+1)).filter p=(L.take k).filter p++(if p (L.getD k default)=true then[L.getD k default]else[]):=by
 rw[List.take_add_one,geT h,List.filter_append];have:L.getD k default=L[k]:=by simp[List.getD,geT h]
 rw[this];by_cases hp:p L[k]=true
 ·simp[hp]
 ·simp[hp]
theorem G4{Z:List Int}{L:List (A3 Int)}{n:Nat}(J:2<n)(M:L.length=2)(out:List (A3 Int))(N:out.length<=100000)
  (E:∀k,k<2->inR (L.getD k default).e0 Z.length=true/\inR (L.getD k default).e1 Z.length=true/\inR (L.getD k default).e2 Z.length=true):
  aK (α:=List (A3 Int)×Int) (β:=List (A3 Int)) n (fun q (m,j)=>(
   cdO (decide (j<2)) (gdO (inR j L.length) (gdO (inR (gt L j).e0 Z.length) (cdO ((gt Z (gt L j).e0:Int)!=(-2147483648)) (gdO (inR (gt L j).e1 Z.length) (cdO ((gt Z (gt L j).e1:Int)!=(-2147483648)) (gdO (inR (gt L j).e2 Z.length) (cdO ((gt Z (gt L j).e2:Int)!=(-2147483648)) (
    gdO (decide ((m.length+1)*24<=140737488355328)) (gdO (decide (m.length+1<=4611686018427387904)) (q (m++[gt L j],Jt (j+1))))) (q (m,Jt (j+1))))) (q (m,Jt (j+1))))) (q (m,Jt (j+1)))))) (some m))) (out,0)=some (out++L.filter (iP Z)):=by
 apply Ok.eq;refine kZ (len:=2) (fun k c=>c=out++(L.take k).filter (iP Z)) (by omega) (by omega) (by simp) ?_ ?_
 ·rintro again k c hk rfl D;obtain⟨r0,r1,r2⟩:=E k hk;have z:=vq (L:=L) (p:=iP Z) (k:=k) (by omega);have I:(out++(L.take k).filter (iP Z)).length<=100002:=by
   have:=List.length_filter_le (iP Z) (L.take k);rw[List.length_take]at this;rw[List.length_append];omega
  rw[<-fb]at r0 r1 r2 z;have no:iP Z (gt L (k:Int))=false->Ok (again (out++(L.take k).filter (iP Z),Jt ((k:Int)+1))) (fun o=>o=out++L.filter (iP Z)):=fun h=>D _ (by rw[z,h];simp)
  refine Ok.cd (fun _=>?_) (fun h=>by have:=dcF h;omega);refine Ok.gd (by rw[bb];exact decide_eq_true (by omega)) (Ok.gd r0 ?_);refine Ok.cd (fun C=>?_) (fun h=>no (by unfold iP;rw[h];rfl));refine Ok.gd r1 (Ok.cd (fun h1=>?_) (fun h=>no (by unfold iP;rw[C,h];rfl)));refine Ok.gd r2 (Ok.cd (fun h2=>?_) (fun h=>no (by unfold iP;rw[C,h1,h];rfl)));refine Ok.gd (decide_eq_true (by omega)) (Ok.gd (decide_eq_true (by omega)) (D _ ?_));rw[z,if_pos (by unfold iP;rw[C,h1,h2];rfl),List.append_assoc]
 ·rintro again c rfl;refine Ok.cd (fun h=>by simp at h) (fun _=>ar.2 ?_);rw[List.take_of_length_le (by omega)]
structure Gd (g:ak) (w h:Nat):Prop where
 dim:Dim g
 W:g.Width=(w:Int)
 H:g.Height=(h:Int)
 w1:2<=w/\w<=64
 h1:2<=h/\h<=64
 m:g.Z.length=w*h
theorem Hv{g:ak}(h:mh g=0):∃w h:Nat,Gd g w h:=by
 obtain⟨d,e,_⟩:=yw h;have:=d.w;have:=d.h;have j:g.Width=((g.Width.toNat:Nat):Int):=by omega
 have hH:g.Height=((g.Height.toNat:Nat):Int):=by omega
 refine⟨g.Width.toNat,g.Height.toNat,d,j,hH,by omega,by omega,?_⟩;have e2:g.Width*g.Height=((g.Width.toNat*g.Height.toNat:Nat):Int):=by rw[Int.natCast_mul,<-j,<-hH]
 omega
theorem yX{w h j i m:Nat}(hm:m=w*h)(hw:w<=64)(hh:h<=64)(p:j<h-1)(q:i<w-1)(k:Nat)(hk:k<2):
  inR ((im (w:Int) j i).getD k default).e0 m=true/\inR ((im (w:Int) j i).getD k default).e1 m=true/\inR ((im (w:Int) j i).getD k default).e2 m=true:=by
 have h1:(j+2)*w<=h*w:=Nat.mul_le_mul_right w (by omega);have h2:h*w<=64*64:=Nat.mul_le_mul hh hw;rw[Nat.mul_comm h w,Nat.add_mul]at h1;rw[Nat.mul_comm h w]at h2;have e:((j:Int)*(w:Int))=((j*w:Nat):Int):=(Int.natCast_mul _ _).symm;unfold im;rw[e];generalize j*w=J at*;generalize w*h=M at*;rw[wrap64_in (n:=(J:Int)) (by omega) (by omega),wrap64_in (n:=(J:Int)+(i:Int)) (by omega) (by omega),wrap64_in (n:=(J:Int)+(i:Int)+1) (by omega) (by omega),wrap64_in (n:=(J:Int)+(i:Int)+(w:Int)) (by omega) (by omega),wrap64_in (n:=(J:Int)+(i:Int)+(w:Int)+1) (by omega) (by omega)];simp only[qa];rcases (show k=0\/k=1 by omega)with rfl|rfl
 ·show(0<=(J:Int)+i/\(J:Int)+i<m)/\(0<=(J:Int)+i+1/\(J:Int)+i+1<m)/\(0<=(J:Int)+i+w+1/\(J:Int)+i+w+1<m);omega
 ·show(0<=(J:Int)+i/\(J:Int)+i<m)/\(0<=(J:Int)+i+w+1/\(J:Int)+i+w+1<m)/\(0<=(J:Int)+i+w/\(J:Int)+i+w<m);omega
def qv(g:ak)(w h:Nat):List (A3 Int):=(cZ g.Width (w-1) (h-1)).filter (iP g.Z)
theorem Dp{n:Nat}(S:200<n){g:ak}{w h:Nat}(z:Gd g w h):fy n g=some (qv g w h):=by
 have hw:=z.w1;have hh:=z.h1;have hH:=z.H;have I:=z.W;apply Ok.eq;unfold fy;rw[hH,wrap64_in (n:=(h:Int)-1) (by omega) (by omega),wrap64_in (n:=g.Width-1) (by omega) (by omega)];refine Ok.bd (R:=fun o=>o=qv g w h) ?_ (fun o C=>ar.2 C);refine kZ (len:=h-1) (fun j c=>c=(cZ g.Width (w-1) j).filter (iP g.Z)) (by omega) (by omega) rfl ?_ ?_
 ·rintro again j c J rfl M;have D:=pT (W:=g.Width) (w:=w-1) j;have N:2*(w-1)*j<=2*63*63:=Nat.mul_le_mul (by omega) (by omega);refine Ok.cd (fun _=>?_) (fun h=>by have:=dcF h;omega);refine Ok.bd (R:=fun o=>o=(cZ g.Width (w-1) (j+1)).filter (iP g.Z)) ?_ (fun o C=>M _ C);refine kZ (len:=w-1) (fun i c=>c=(cZ g.Width (w-1) j++(List.range i).flatMap (im g.Width j)).filter (iP g.Z)) (by omega) (by omega) (by simp) ?_ ?_
  ·rintro q i c O rfl E;refine Ok.cd (fun _=>?_) (fun h=>by have:=dcF h;omega);have hlen:=List.length_filter_le (iP g.Z) (cZ g.Width (w-1) j++(List.range i).flatMap (im g.Width j));rw[List.length_append,D,wc]at hlen;refine Ok.bde (G4 (L:=im g.Width j i) (Z:=g.Z) (by omega) rfl _ (by omega) (fun k hk=>by rw[I];exact yX z.m hw.2 hh.2 J O k hk)) ?_;refine E _ ?_;rw[xr,<-List.append_assoc,List.filter_append (p:=iP g.Z) (cZ g.Width (w-1) j++(List.range i).flatMap (im g.Width j))]
  ·rintro q c rfl;refine Ok.cd (fun h=>by have:=dcT h;omega) (fun _=>ar.2 ?_);rw[wM];rfl
 ·rintro again c rfl;exact Ok.cd (fun h=>by have:=dcT h;omega) (fun _=>ar.2 rfl)
theorem Ew{W:Int}{w:Nat}{t:A3 Int}:∀{h:Nat},t∈cZ W w h->∃j i k,j<h/\i<w/\k<2/\t=(im W j i).getD k default:=by
 intro h m;unfold cZ at m;obtain⟨j,p,m⟩:=List.mem_flatMap.1 m;unfold Dt at m;obtain⟨i,q,m⟩:=List.mem_flatMap.1 m;rw[List.mem_range]at p q;obtain⟨k,hk,e⟩:=List.getElem_of_mem m;refine⟨j,i,k,p,q,hk,?_⟩;simp only[List.getD,geT hk,Option.getD_some];exact e.symm
theorem w7{g:ak}{w h:Nat}(p:Gd g w h){t:A3 Int}(q:t∈cZ g.Width (w-1) (h-1)):inR t.e0 g.Z.length=true/\inR t.e1 g.Z.length=true/\inR t.e2 g.Z.length=true:=by
 obtain⟨j,i,k,z,C,hk,rfl⟩:=Ew q;rw[p.W];exact yX p.m p.w1.2 p.h1.2 z C k hk
end Go.L


set_option linter.all false
namespace Go.L
open Go Go.Eng
theorem dN{l:List Int}{k:Nat}:gt l (k:Int)=l.getD k 0:=fb
theorem jI{k:Nat}(h:k<=4000000000):Jt ((k:Int)+1)=((k+1:Nat):Int):=by rw[wrap64_in (by omega) (by omega)];omega
theorem lS{k:Nat}(h:0<k)(h2:k<=4000000000):Jt ((k:Int)-1)=((k-1:Nat):Int):=by rw[wrap64_in (by omega) (by omega)];omega
theorem rU{n:Nat}{g:List Int}(D:1000<=n)(q:Dig g)(E:g.length<=900):Ok (ei n g) fun r=>Can r/\vl r=vl g:=by
 unfold ei;refine Ok.bd (R:=fun r=>Can r/\vl r=vl g) ?_ (fun I h=>ar.2 h);refine dx (fun l:List Int=>Dig l/\vl l=vl g/\l.length<=g.length) (fun l=>l.length) ?_ n g ⟨q,rfl,Nat.le_refl _⟩ (by omega);rintro again l ⟨h1,h2,J⟩ z;refine Ok.cd (fun h=>?_) (fun h=>?_)
 ·have m:0<l.length:=by simpa using h
  rw[lS m (by omega)];refine Ok.gd (by rw[bb];simp;omega) ?_;rw[dN];refine Ok.cd (fun h=>?_) (fun h=>?_)
  ·refine Ok.gd (ug.2 (by omega)) ?_;have e:(l.drop (0:Int).toNat).take (((l.length-1:Nat):Int).toNat-(0:Int).toNat)=l.take (l.length-1):=by simp
   rw[e];have C:l.getD (l.length-1) 0=0:=by simpa using h
   refine z _ ⟨qZ h1 _,?_,?_⟩ ?_
   ·rw[yB (by omega) ?_,h2];intro j M;by_cases p:j=l.length-1
    ·rw[p];exact C
    ·simp[List.getD,List.getElem?_eq_none (by omega:l.length<=j)]
   ·rw[List.length_take];omega
   ·rw[List.length_take];omega
  ·refine ar.2 ⟨Al h1 (.inr ?_),h2⟩;simpa using h
 ·have:l=[]:=by simpa using h
  subst this;exact ar.2 ⟨trivial,h2⟩
theorem dy{n:Nat}{g:List Int}(j:1000<=n)(neg:Bool)(m:Dig g)(p:g.length<=900):Ok (bO n neg g) fun z=>isI z.Negative z.Groups (if neg then-vl g else vl g):=by
 unfold bO;refine Ok.bd (rU j m p) ?_;rintro r ⟨h1,h2⟩;refine Ok.cd (fun h=>?_) (fun h=>?_)
 ·have:r=[]:=by simpa using h
  subst this;refine ar.2 (show isI false [] _ from⟨trivial,(fun h=>absurd h (by decide)),?_⟩);rw[<-h2];cases neg<;>rfl
 ·refine ar.2 ⟨h1,fun _=>?_,?_⟩
  ·rintro rfl;simp at h
  ·rw[<-h2]
theorem lH{n:Nat}{v:Int}(M:1000<=n)(C:0<=v)(N:v<18446744073709551616):Ok (dc n v) fun r=>Can r/\vl r=v/\r.length<=3:=by
 unfold dc;refine Ok.bd (R:=fun r=>Can r/\vl r=v/\r.length<=3) ?_ (fun O h=>ar.2 h);refine dx (fun x:Int×List Int=>Dig x.2/\0<=x.1/\vl x.2+pB x.2.length*x.1=v/\x.2.length<=3/\(x.1=0->Can x.2)) (fun x=>4-x.2.length) ?_ n (v,[]) ⟨nA,C,by show 0+1*v=v;omega,by simp,fun _=>trivial⟩ (by simp;omega);rintro again ⟨m,g⟩ ⟨h1,h2,p,q,z⟩ D;simp only at h1 h2 p q z;have S:=aZ h1;have hp:=gM g.length;have E:m<=v:=by
  have:m<=pB g.length*m:=by
   have:=mrT hp h2;omega
  omega
 refine Ok.cd (fun h=>?_) (fun h=>?_)
 ·have hm:0<m:=by simpa using h
  have hlen:g.length<=2:=by
   by_cases h:g.length<=2
   ·exact h
   ·have I:g.length=3:=by omega
    rw[I]at p;have:pB 3=1000000000000000000000000000:=rfl;rw[this]at p;omega
  refine Ok.gd (by simp;omega) (Ok.gd (by simp;omega) ?_);have e1:m.tdiv 1000000000=m / 1000000000:=Int.tdiv_eq_ediv_of_nonneg h2;have e2:m.tmod 1000000000=m%1000000000:=Int.tmod_eq_emod_of_nonneg h2;rw[e1,e2,aE (by omega) (by omega),bj (by omega) (by omega)];have j:0<=m%1000000000/\m%1000000000<1000000000:=by omega
  refine D _ ⟨kN.2 ⟨h1,fV.2 j⟩,by simp only;omega,?_,by simp;omega,fun J=>wj h1 j (by simp only at J;omega)⟩ (by simp;omega);simp only;rw[lI,gY,List.length_append,List.length_singleton,cL];have:m=m%1000000000+1000000000*(m / 1000000000):=by omega
  rw[<-p];grind
 ·have hm:m=0:=by simp at h;omega
  subst hm;exact ar.2 ⟨z rfl,by omega,q⟩
theorem sC{n:Nat}{v:Int}(p:1000<=n)(C:-9223372036854775808<=v)(D:v<=9223372036854775807):Ok (dw n v) fun z=>isI z.Negative z.Groups v:=by
 unfold dw;refine Ok.cd (fun h=>?_) (fun h=>?_)
 ·have j:v<0:=by simpa using h
  have e:aa .u64 (0-aa .u64 v)=-v:=by
   rw[kB,kB,IntKind.wrap_u64,IntKind.wrap_u64];omega
  rw[e];refine Ok.bd (lH p (by omega) (by omega)) ?_;rintro r ⟨h1,h2,q⟩;refine Ok.bd (dy p true h1.dig (by omega)) ?_;intro z m;rw[h2]at m;refine ar.2 ?_;simpa using m
 ·have j:0<=v:=by simpa using h
  rw[aE j (by omega)];refine Ok.bd (lH p (by omega) (by omega)) ?_;rintro r ⟨h1,h2,q⟩;refine Ok.bd (dy p false h1.dig (by omega)) ?_;intro z m;rw[h2]at m;exact ar.2 m
theorem lP{n:Nat}{x:ag}{v:Int}(q:1000<=n)(z:x.Groups.length<=900)(h:isI x.Negative x.Groups v):eR n x=some true:=by
 obtain⟨h1,h2,C⟩:=h;unfold eR;by_cases j:x.Groups=[]
 ·have:x.Negative=false:=by cases hh:x.Negative with|false=>rfl|true=>exact absurd j (h2 hh)
  rw[j,this];rfl
 ·have m:0<x.Groups.length:=List.length_pos_iff.2 j;have e:(((x.Groups.length:Int):Int)==0)=false:=by simp[j]
  rw[e];show gdO _ _=_;rw[lS m (by omega),bb,dN];have e1:decide (x.Groups.length-1<x.Groups.length)=true:=by simp;omega
  have e2:(x.Groups.getD (x.Groups.length-1) 0!=0)=true:=by simpa using rP h1 j
  rw[e1,e2];show bdO (bh n x.Groups) _=_;unfold bh;have:bE n x.Groups=some (po (fun g=>decide (g>=1000000000)) x.Groups):=rH (fun x=>rfl) (by omega) (by omega);rw[this];show some (!decide (po _ x.Groups>=0))=_;rw[vT];have:x.Groups.any (fun g=>decide (g>=1000000000))=false:=by
   rw[List.any_eq_false];intro d p;have:=h1.dig d p;simp;omega
  rw[this];rfl
theorem fX{n:Nat}{x:ag}{v:Int}(j:1000<=n)(m:x.Groups.length<=900)(h:isI x.Negative x.Groups v):bz n x=some x.Groups:=by
 unfold bz;rw[lP j m h];rfl
theorem jK{n:Nat}{x:ag}{v:Int}(m:1000<=n)(p:x.Groups.length<=900)(h:isI x.Negative x.Groups v):dJ n x=some (sgn v):=by
 unfold dJ;rw[fX m p h,BD h];show cdO _ _ _=_;by_cases j:x.Groups=[]
 ·rw[j];rfl
 ·have e:(((x.Groups.length:Int):Int)==0)=false:=by simp[j]
  rw[e,if_neg j];cases x.Negative<;>rfl
theorem BO{n:Nat}{l:List Int}{k:Nat}:gT n l (k:Int)=some (l.getD k 0):=by
 unfold gT;by_cases h:k<l.length
 ·have e:decide ((k:Int)<(l.length:Int))=true:=by simp;omega
  rw[e,bb,dN];have e:decide (k<l.length)=true:=by simpa using h
  rw[e];rfl
 ·have e:decide ((k:Int)<(l.length:Int))=false:=by simp;omega
  rw[e];have:l.getD k 0=0:=by simp[List.getD,List.getElem?_eq_none (by omega:l.length<=k)]
  rw[this];rfl
end Go.L

