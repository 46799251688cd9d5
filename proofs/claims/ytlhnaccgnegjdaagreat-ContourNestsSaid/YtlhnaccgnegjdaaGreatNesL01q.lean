import Derived.Test.YtlhnaccgnegjdaaGreatNesLD
import Derived.Test.YtlhnaccgnegjdaaGreatPl6Ness
import Derived.KernelRfl
import Derived.Test.YtlhnaccgnegjdaaGreatPl6Ness
set_option linter.all false
namespace Go.L
open Go Go.Eng
def xR(z:Int):Bool:=decide (z< -1048576)||decide (z>1048576)
theorem FJ{z:Int}:(cdO (decide (z<(-1048576))) (some true) (some (decide (z>1048576))):Option Bool)=some (xR z):=by
 unfold xR;cases decide (z< -1048576)<;>rfl
theorem Ch{n:Nat}{z:Int}:jk n z=some (xR z):=FJ
def qu(z:Int):Bool:=(z != -2147483648)&&xR z
theorem Jh(n:Nat)(z:Int):jw n z=some (qu z):=by
 unfold jw qu;rw[Ch];cases (z != -2147483648)<;>rfl
theorem HV{n:Nat}{s:List Int}(j:s.length<n)(m:s.length<=9223372036854775806):bl n s=some (s.any qu):=by
 unfold bl;have:bZ n s=some (qt qu s):=sF (fun x=>Jh n x) j m;rw[this];show some (decide (qt qu s>=0))=_;rw[xd]
theorem IW{n:Nat}{s:List Int}{v:Int}(j:s.length<n)(m:s.length<=9223372036854775806):bX n s v=some (s.any fun z=>v==z):=by
 unfold bX;have:iy n s v=some (qt (fun z=>v==z) s):=Ck j m;rw[this];show some (decide (qt (fun z=>v==z) s>=0))=_;rw[xd]
def yZ(a:Int):Bool:=decide (2<=a)&&decide (a<=64)
structure Dim (g:ak):Prop where
 w:2<=g.Width/\g.Width<=64
 h:2<=g.Height/\g.Height<=64
 s:2<=g.Step/\g.Step<=65536
 e:g.Step.tmod 2=0
 x:xR g.X0=false
 y:xR g.Y0=false
theorem EJ{w h:Int}(hw:2<=w/\w<=64)(j:2<=h/\h<=64):4<=w*h/\w*h<=4096:=by
 have h1:=Int.mul_le_mul hw.2 j.2 (by omega) (by omega);have h2:=Int.mul_le_mul hw.1 j.1 (by omega) (by omega);omega
open Classical in
noncomputable def mJ(g:ak):Int:=if Dim g then(if (g.Z.length:Int)=g.Width*g.Height then(if g.Z.any qu=true then 2 else 0)else 4)else 2
theorem nY{g:ak}(h:¬Dim g):mJ g=2:=by unfold mJ;rw[if_neg h]
theorem Ew{n:Nat}{a:Int}:ff n a=some (yZ a):=by
 unfold ff yZ;have e:decide (a>=2)=decide (2<=a):=rfl;rw[e];cases decide (2<=a)<;>rfl
theorem Fl{n:Nat}(C:4096<n)(g:ak):kB n g=some (mJ g):=by
 apply Ok.eq;unfold kB;refine Ok.bde Ew (Ok.cd (fun h=>aw.2 (nY fun d=>?_).symm) (fun h1=>Ok.bde Ew (Ok.cd (fun h=>aw.2 (nY fun d=>?_).symm) (fun h2=>Ok.cd (fun h=>aw.2 (nY fun d=>?_).symm) (fun j=>Ok.cd (fun h=>aw.2 (nY fun d=>?_).symm) (fun m=>Ok.cd (fun h=>aw.2 (nY fun d=>?_).symm) (fun p=>Ok.bde Ch (Ok.cd (fun h=>aw.2 (nY fun d=>?_).symm) (fun q=>Ok.bde Ch (Ok.cd (fun h=>aw.2 (nY fun d=>?_).symm) (fun z=>?_)))))))))))
 ·have:=d.w;simp[yZ]at h;omega
 ·have:=d.h;simp[yZ]at h;omega
 ·have:=d.s;have:=dcT h;omega
 ·have:=d.s;have:=dcT h;omega
 ·have:=d.e;simp[this]at h
 ·rw[d.x]at h;cases h
 ·rw[d.y]at h;cases h
 have j:=dcF j;have m:=dcF m;have d:Dim g:=⟨by simp[yZ]at h1;omega,by simp[yZ]at h2;omega,by omega,by simpa using p,q,z⟩;have ha:=EJ d.w d.h;rw[wrap64_in (n:=g.Width*g.Height) (by omega) (by omega)];unfold mJ;rw[if_pos d];refine Ok.cd (fun h=>aw.2 ?_) (fun h=>?_)
 ·rw[if_neg];simpa using h
 ·have h:(g.Z.length:Int)=g.Width*g.Height:=by simpa using h
  rw[if_pos h];refine Ok.bde (HV (by omega) (by omega)) (Ok.cd (fun h=>aw.2 ?_) (fun h=>aw.2 ?_))
  ·rw[if_pos h]
  ·rw[if_neg (by rw[h];decide)]
theorem D6{γ ρ:Type}[Inhabited γ]{n:Nat}{s:List γ}{p:γ->Bool}{c:ρ}{F:(Int->Option (Sum Unit ρ))->Int->Option (Sum Unit ρ)}(E:s.length<n)(I:s.length<=9223372036854775806)
  (step:∀again (k:Nat),k<s.length->F again (k:Int)=if p (s.getD k default)=true then some (.inr c)else again (Jy ((k:Int)+1))) (m:∀again,F again (s.length:Int)=some (.inl ())):aJ n F 0=some (if s.any p=true then .inr c else .inl ()):=by
 apply Ok.eq;refine x9 (len:=s.length) (fun k=>∀j,j<k->p (s.getD j default)=false) E I (by intro j q;omega) ?_ ?_
 ·intro again k z C J;rw[step again k z];by_cases h:p (s.getD k default)=true
  ·rw[if_pos h];refine aw.2 ?_;rw[if_pos];refine List.any_eq_true.2 ⟨s.getD k default,?_,h⟩;simp only[List.getD,geT z,Option.getD_some];exact List.getElem_mem z
  ·rw[if_neg h];exact J fun j q=>by
    by_cases D:j=k
    ·rw[D];simpa using h
    ·exact C j (by omega)
 ·intro again C;rw[m];refine aw.2 ?_;rw[if_neg];intro ha;obtain⟨x,hx,hp⟩:=List.any_eq_true.1 ha;obtain⟨j,q,rfl⟩:=List.getElem_of_mem hx;have:=C j q;simp only[List.getD,geT q,Option.getD_some]at this;rw[this]at hp;cases hp
theorem Dj{g:ak}(h:mJ g=0):Dim g/\(g.Z.length:Int)=g.Width*g.Height/\g.Z.any qu=false:=by
 unfold mJ at h;split at h
 ·rename_i d;split at h
  ·rename_i e;split at h
   ·omega
   ·rename_i f;exact⟨d,e,by simpa using f⟩
  ·omega
 ·omega
def B2{α:Type}(x y:Option α)(Q:α->Prop):Prop:=∃r,x=some r/\y=some r/\Q r
section
variable{α β:Type}{Q:α->Prop}{R:β->Prop}{x y:Option β}{f g:β->Option α}
theorem B2.bde{b:β}(hx:x=some b)(j:y=some b)(k:B2 (f b) (g b) Q):B2 (bdO x f) (bdO y g) Q:=by subst hx j;exact k
theorem B2.bd(h:B2 x y R)(k:∀b,R b->B2 (f b) (g b) Q):B2 (bdO x f) (bdO y g) Q:=by
 obtain⟨b,h1,h2,j⟩:=h;exact B2.bde h1 h2 (k b j)
theorem B2.cd{b:Bool}{t j e m:Option α}(h:b=true->B2 t j Q)(k:b=false->B2 e m Q):B2 (cdO b t e) (cdO b j m) Q:=by
 cases b
 ·exact k rfl
 ·exact h rfl
end
end Go.L


set_option linter.all false
namespace Go.L
open Go Go.Eng
def jb(W:Int)(j i:Nat):List (A3 Int):=[A3.mk (Jy ((Jy ((j:Int)*W))+(i:Int))) (Jy ((Jy ((Jy ((j:Int)*W))+(i:Int)))+1)) (Jy ((Jy ((Jy ((Jy ((j:Int)*W))+(i:Int)))+W))+1)),A3.mk (Jy ((Jy ((j:Int)*W))+(i:Int))) (Jy ((Jy ((Jy ((Jy ((j:Int)*W))+(i:Int)))+W))+1)) (Jy ((Jy ((Jy ((j:Int)*W))+(i:Int)))+W))]
def Ea(W:Int)(w j:Nat):List (A3 Int):=(List.range w).flatMap (jb W j)
def nQ(W:Int)(w h:Nat):List (A3 Int):=(List.range h).flatMap (Ea W w)
theorem AI{W:Int}{w j:Nat}:(List.range (w+1)).flatMap (jb W j)=(List.range w).flatMap (jb W j)++jb W j w:=by rw[List.range_succ,List.flatMap_append];simp
theorem Bo{W:Int}{w h:Nat}:nQ W w (h+1)=nQ W w h++Ea W w h:=by unfold nQ;rw[List.range_succ,List.flatMap_append];simp
theorem Ac{W:Int}{j:Nat}:∀w:Nat,((List.range w).flatMap (jb W j)).length=2*w
 |0=>rfl
 |w+1=>by rw[AI,List.length_append,Ac w];simp[jb];omega
theorem uO{W:Int}{w:Nat}:∀h:Nat,(nQ W w h).length=2*w*h
 |0=>rfl
 |h+1=>by rw[Bo,List.length_append,uO h,Ea,Ac,Nat.mul_succ]
def oX(Z:List Int)(t:A3 Int):Bool:=(gt Z t.e0 != -2147483648)&&((gt Z t.e1 != -2147483648)&&(gt Z t.e2 != -2147483648))
theorem Bf{L:List (A3 Int)}{p:A3 Int->Bool}{k:Nat}(h:k<L.length):(L.take (k+1)).filter p=(L.take k).filter p++(if p (L.getD k default)=true then[L.getD k default]else[]):=by
 rw[List.take_add_one,geT h,List.filter_append];have:L.getD k default=L[k]:=by simp[List.getD,geT h]
 rw[this];by_cases hp:p L[k]=true
 ·simp[hp]
 ·simp[hp]
structure Gd (g:ak) (w h:Nat):Prop where
 dim:Dim g
 W:g.Width=(w:Int)
 H:g.Height=(h:Int)
 w1:2<=w/\w<=64
 h1:2<=h/\h<=64
 m:g.Z.length=w*h
theorem IM{g:ak}(h:mJ g=0):∃w h:Nat,Gd g w h:=by
 obtain⟨d,e,_⟩:=Dj h;have:=d.w;have:=d.h;have j:g.Width=((g.Width.toNat:Nat):Int):=by omega
 have m:g.Height=((g.Height.toNat:Nat):Int):=by omega
 refine⟨g.Width.toNat,g.Height.toNat,d,j,m,by omega,by omega,?_⟩;have e2:g.Width*g.Height=((g.Width.toNat*g.Height.toNat:Nat):Int):=by rw[Int.natCast_mul,<-j,<-m]
 omega
theorem CM{w h j i m:Nat}(hm:m=w*h)(hw:w<=64)(p:h<=64)(q:j<h-1)(z:i<w-1)(k:Nat)(C:k<2):
  inR ((jb (w:Int) j i).getD k default).e0 m=true/\inR ((jb (w:Int) j i).getD k default).e1 m=true/\inR ((jb (w:Int) j i).getD k default).e2 m=true:=by
 have h1:(j+2)*w<=h*w:=Nat.mul_le_mul_right w (by omega);have h2:h*w<=64*64:=Nat.mul_le_mul p hw;rw[Nat.mul_comm h w,Nat.add_mul]at h1;rw[Nat.mul_comm h w]at h2;have e:((j:Int)*(w:Int))=((j*w:Nat):Int):=(Int.natCast_mul _ _).symm;unfold jb;rw[e];generalize j*w=J at*;generalize w*h=M at*;rw[wrap64_in (n:=(J:Int)) (by omega) (by omega),wrap64_in (n:=(J:Int)+(i:Int)) (by omega) (by omega),wrap64_in (n:=(J:Int)+(i:Int)+1) (by omega) (by omega),wrap64_in (n:=(J:Int)+(i:Int)+(w:Int)) (by omega) (by omega),wrap64_in (n:=(J:Int)+(i:Int)+(w:Int)+1) (by omega) (by omega)];simp only[iW];rcases (show k=0\/k=1 by omega)with rfl|rfl
 ·show(0<=(J:Int)+i/\(J:Int)+i<m)/\(0<=(J:Int)+i+1/\(J:Int)+i+1<m)/\(0<=(J:Int)+i+w+1/\(J:Int)+i+w+1<m);omega
 ·show(0<=(J:Int)+i/\(J:Int)+i<m)/\(0<=(J:Int)+i+w+1/\(J:Int)+i+w+1<m)/\(0<=(J:Int)+i+w/\(J:Int)+i+w<m);omega
def gY(g:ak)(w h:Nat):List (A3 Int):=(nQ g.Width (w-1) (h-1)).filter (oX g.Z)
theorem GA{W:Int}{w:Nat}{t:A3 Int}:∀{h:Nat},t∈nQ W w h->∃j i k,j<h/\i<w/\k<2/\t=(jb W j i).getD k default:=by
 intro h m;unfold nQ at m;obtain⟨j,p,m⟩:=List.mem_flatMap.1 m;unfold Ea at m;obtain⟨i,q,m⟩:=List.mem_flatMap.1 m;rw[List.mem_range]at p q;obtain⟨k,z,e⟩:=List.getElem_of_mem m;refine⟨j,i,k,p,q,z,?_⟩;simp only[List.getD,geT z,Option.getD_some];exact e.symm
theorem B6{g:ak}{w h:Nat}(p:Gd g w h){t:A3 Int}(q:t∈nQ g.Width (w-1) (h-1)):inR t.e0 g.Z.length=true/\inR t.e1 g.Z.length=true/\inR t.e2 g.Z.length=true:=by
 obtain⟨j,i,k,z,C,D,rfl⟩:=GA q;rw[p.W];exact CM p.m p.w1.2 p.h1.2 z C k D
end Go.L


set_option linter.all false
namespace Go.L
open Go Go.Eng
theorem dY{l:List Int}{k:Nat}:gt l (k:Int)=l.getD k 0:=jV
theorem jR{k:Nat}(h:k<=4000000000):Jy ((k:Int)+1)=((k+1:Nat):Int):=by rw[wrap64_in (by omega) (by omega)];omega
theorem lY{k:Nat}(h:0<k)(h2:k<=4000000000):Jy ((k:Int)-1)=((k-1:Nat):Int):=by rw[wrap64_in (by omega) (by omega)];omega
theorem sI{n:Nat}{g:List Int}(C:1000<=n)(hd:Dig g)(D:g.length<=900):Ok (eG n g) fun r=>Can r/\vl r=vl g:=by
 unfold eG;refine Ok.bd (R:=fun r=>Can r/\vl r=vl g) ?_ (fun E h=>aw.2 h);refine dD (fun l:List Int=>Dig l/\vl l=vl g/\l.length<=g.length) (fun l=>l.length) ?_ n g ⟨hd,rfl,Nat.le_refl _⟩ (by omega);rintro again l ⟨h1,h2,I⟩ q;refine Ok.cd (fun h=>?_) (fun h=>?_)
 ·have m:0<l.length:=by simpa using h
  rw[lY m (by omega)];refine Ok.gd (by rw[aR];simp;omega) ?_;rw[dY];refine Ok.cd (fun h=>?_) (fun h=>?_)
  ·refine Ok.gd (uW.2 (by omega)) ?_;have e:(l.drop (0:Int).toNat).take (((l.length-1:Nat):Int).toNat-(0:Int).toNat)=l.take (l.length-1):=by simp
   rw[e];have z:l.getD (l.length-1) 0=0:=by simpa using h
   refine q _ ⟨sc h1 _,?_,?_⟩ ?_
   ·rw[Af (by omega) ?_,h2];intro j J;by_cases p:j=l.length-1
    ·rw[p];exact z
    ·simp[List.getD,List.getElem?_eq_none (by omega:l.length<=j)]
   ·rw[List.length_take];omega
   ·rw[List.length_take];omega
  ·refine aw.2 ⟨AY h1 (.inr ?_),h2⟩;simpa using h
 ·have:l=[]:=by simpa using h
  subst this;exact aw.2 ⟨trivial,h2⟩
theorem dy{n:Nat}{g:List Int}(j:1000<=n)(neg:Bool)(hd:Dig g)(m:g.length<=900):Ok (bU n neg g) fun z=>isI z.Negative z.Groups (if neg then-vl g else vl g):=by
 unfold bU;refine Ok.bd (sI j hd m) ?_;rintro r ⟨h1,h2⟩;refine Ok.cd (fun h=>?_) (fun h=>?_)
 ·have:r=[]:=by simpa using h
  subst this;refine aw.2 (show isI false [] _ from⟨trivial,(fun h=>absurd h (by decide)),?_⟩);rw[<-h2];cases neg<;>rfl
 ·refine aw.2 ⟨h1,fun _=>?_,?_⟩
  ·rintro rfl;simp at h
  ·rw[<-h2]
theorem lT{n:Nat}{v:Int}(M:1000<=n)(C:0<=v)(N:v<18446744073709551616):Ok (cV n v) fun r=>Can r/\vl r=v/\r.length<=3:=by
 unfold cV;refine Ok.bd (R:=fun r=>Can r/\vl r=v/\r.length<=3) ?_ (fun O h=>aw.2 h);refine dD (fun x:Int×List Int=>Dig x.2/\0<=x.1/\vl x.2+pB x.2.length*x.1=v/\x.2.length<=3/\(x.1=0->Can x.2)) (fun x=>4-x.2.length) ?_ n (v,[]) ⟨og,C,by show 0+1*v=v;omega,by simp,fun _=>trivial⟩ (by simp;omega);rintro again ⟨m,g⟩ ⟨h1,h2,p,q,z⟩ D;simp only at h1 h2 p q z;have T:=ba h1;have hp:=gF g.length;have E:m<=v:=by
  have:m<=pB g.length*m:=by
   have:=mrT hp h2;omega
  omega
 refine Ok.cd (fun h=>?_) (fun h=>?_)
 ·have hm:0<m:=by simpa using h
  have hlen:g.length<=2:=by
   by_cases h:g.length<=2
   ·exact h
   ·have I:g.length=3:=by omega
    rw[I]at p;have:pB 3=1000000000000000000000000000:=rfl;rw[this]at p;omega
  refine Ok.gd (by simp;omega) (Ok.gd (by simp;omega) ?_);have e1:m.tdiv 1000000000=m / 1000000000:=Int.tdiv_eq_ediv_of_nonneg h2;have e2:m.tmod 1000000000=m%1000000000:=Int.tmod_eq_emod_of_nonneg h2;rw[e1,e2,aF (by omega) (by omega),bf (by omega) (by omega)];have j:0<=m%1000000000/\m%1000000000<1000000000:=by omega
  refine D _ ⟨ln.2 ⟨h1,fN.2 j⟩,by simp only;omega,?_,by simp;omega,fun J=>xb h1 j (by simp only at J;omega)⟩ (by simp;omega);simp only;rw[me,hZ,List.length_append,List.length_singleton,cE];have:m=m%1000000000+1000000000*(m / 1000000000):=by omega
  rw[<-p];grind
 ·have hm:m=0:=by simp at h;omega
  subst hm;exact aw.2 ⟨z rfl,by omega,q⟩
theorem xI{n:Nat}{v:Int}(p:1000<=n)(C:-9223372036854775808<=v)(D:v<=9223372036854775807):Ok (gb n v) fun z=>isI z.Negative z.Groups v:=by
 unfold gb;refine Ok.cd (fun h=>?_) (fun h=>?_)
 ·have j:v<0:=by simpa using h
  have e:aa .u64 (0-aa .u64 v)=-v:=by
   rw[kO,kO,IntKind.wrap_u64,IntKind.wrap_u64];omega
  rw[e];refine Ok.bd (lT p (by omega) (by omega)) ?_;rintro r ⟨h1,h2,q⟩;refine Ok.bd (dy p true h1.dig (by omega)) ?_;intro z m;rw[h2]at m;refine aw.2 ?_;simpa using m
 ·have j:0<=v:=by simpa using h
  rw[aF j (by omega)];refine Ok.bd (lT p (by omega) (by omega)) ?_;rintro r ⟨h1,h2,q⟩;refine Ok.bd (dy p false h1.dig (by omega)) ?_;intro z m;rw[h2]at m;exact aw.2 m
theorem mh{n:Nat}{x:ah}{v:Int}(p:1000<=n)(q:x.Groups.length<=900)(h:isI x.Negative x.Groups v):eO n x=some true:=by
 obtain⟨h1,h2,z⟩:=h;unfold eO;by_cases hx:x.Groups=[]
 ·have:x.Negative=false:=by cases m:x.Negative with|false=>rfl|true=>exact absurd hx (h2 m)
  rw[hx,this];rfl
 ·have j:0<x.Groups.length:=List.length_pos_iff.2 hx;have e:(((x.Groups.length:Int):Int)==0)=false:=by simp[hx]
  rw[e];show gdO _ _=_;rw[lY j (by omega),aR,dY];have e1:decide (x.Groups.length-1<x.Groups.length)=true:=by simp;omega
  have e2:(x.Groups.getD (x.Groups.length-1) 0!=0)=true:=by simpa using sg h1 hx
  rw[e1,e2];show bdO (bc n x.Groups) _=_;unfold bc;have:bF n x.Groups=some (qt (fun g=>decide (g>=1000000000)) x.Groups):=sF (fun x=>rfl) (by omega) (by omega);rw[this];show some (!decide (qt _ x.Groups>=0))=_;rw[xd];have:x.Groups.any (fun g=>decide (g>=1000000000))=false:=by
   rw[List.any_eq_false];intro d hd;have:=h1.dig d hd;simp;omega
  rw[this];rfl
theorem im{n:Nat}{x:ah}{v:Int}(j:1000<=n)(m:x.Groups.length<=900)(h:isI x.Negative x.Groups v):bG n x=some x.Groups:=by
 unfold bG;rw[mh j m h];rfl
theorem kR{n:Nat}{x:ah}{v:Int}(j:1000<=n)(m:x.Groups.length<=900)(h:isI x.Negative x.Groups v):dT n x=some (sgn v):=by
 unfold dT;rw[im j m h,CO h];show cdO _ _ _=_;by_cases hx:x.Groups=[]
 ·rw[hx];rfl
 ·have e:(((x.Groups.length:Int):Int)==0)=false:=by simp[hx]
  rw[e,if_neg hx];cases x.Negative<;>rfl
theorem Du{n:Nat}{l:List Int}{k:Nat}:gI n l (k:Int)=some (l.getD k 0):=by
 unfold gI;by_cases h:k<l.length
 ·have e:decide ((k:Int)<(l.length:Int))=true:=by simp;omega
  rw[e,aR,dY];have e:decide (k<l.length)=true:=by simpa using h
  rw[e];rfl
 ·have e:decide ((k:Int)<(l.length:Int))=false:=by simp;omega
  rw[e];have:l.getD k 0=0:=by simp[List.getD,List.getElem?_eq_none (by omega:l.length<=k)]
  rw[this];rfl
end Go.L


set_option linter.all false
namespace Go.L
open Go Go.Eng
theorem xc{n:Nat}{a b:List Int}(J:1000<=n)(ha:Dig a)(hb:Dig b)(Y:a.length<=400)(lb:b.length<=400):Ok (kr n a b) fun r=>Can r/\vl r=vl a+vl b:=by
 unfold kr;obtain⟨M,N,h1,h2,h3⟩:∃M:Nat,mx (a.length:Int) (b.length:Int)=(M:Int)/\a.length<=M/\b.length<=M/\M<=400:=by
  unfold mx;split
  ·exact⟨_,rfl,by omega,by omega,by omega⟩
  ·exact⟨_,rfl,by omega,by omega,by omega⟩
 rw[N,jR (by omega)];refine Ok.gd (by simp;try omega) (Ok.gd (by simp;try omega) (Ok.gd (by simp;try omega) ?_));refine Ok.bd (R:=fun r=>Dig r/\r.length<=900/\vl r=vl a+vl b) ?_ (fun r h=>Ok.bd (sI J h.1 h.2.1) fun z D=>aw.2 ⟨D.1,D.2.trans h.2.2⟩);refine dD (fun x:List Int×Int×Int=>∃k:Nat,x.2.2=(k:Int)/\k<=M+1/\x.1.length=M+1/\Dig x.1/\(x.2.1=0\/x.2.1=1)/\vk x.1 k+pB k*x.2.1=vk a k+vk b k) (fun x=>M+1-x.2.2.toNat) ?_ n _
  ⟨0,rfl,by omega,by simp,qE _,.inl rfl,by simp[jn]⟩ (by simp;omega)
 rintro again ⟨out,c,x⟩ ⟨k,hx,h4,E,p,j,q⟩ O;simp only at hx E p j q;subst hx;dsimp only;rw[List.length_replicate,Int.toNat_natCast,Du,Du];have da:=cB ha k;have db:=cB hb k;refine Ok.cd (fun h=>?_) (fun h=>?_)
 ·have I:k<M+1:=by simp at h;omega
  show Ok (cdO _ _ _) _;generalize hs:aa .u32 (aa .u32 (a.getD k 0+b.getD k 0)+c)=s;have T:s=a.getD k 0+b.getD k 0+c:=by rw[<-hs,bf (n:=a.getD k 0+b.getD k 0) (by omega) (by omega),bf (by omega) (by omega)]
  have step:∀d m,(0<=d/\d<1000000000)->(m=0\/m=1)->s=d+1000000000*m->Ok (again (out.set k d,m,((k+1:Nat):Int))) fun r=>Dig r/\r.length<=900/\vl r=vl a+vl b:=by
   intro d m hd hc U;refine O _ ⟨k+1,rfl,by omega,by simpa using E,jS p hd,hc,?_⟩ (by simp;omega);simp only;rw[C2 (by omega),fC,fC,cE];have:a.getD k 0+b.getD k 0+c=d+1000000000*m:=by omega
   grind
  rw[jR (by omega),aR,Int.toNat_natCast];refine Ok.cd (fun h=>?_) (fun h=>?_)
  ·have C:s>=1000000000:=by simpa using h
   rw[bf (by omega) (by omega)];exact Ok.gd (by simp;omega) (step _ 1 (by omega) (.inr rfl) (by omega))
  ·have C:s<1000000000:=by simpa using h
   exact Ok.gd (by simp;omega) (step _ 0 (by omega) (.inl rfl) (by omega))
 ·have I:k=M+1:=by simp at h;omega
  subst I;refine aw.2 ⟨p,by omega,?_⟩;rw[gp (by omega),gp (by omega),gp (by omega)]at q;have:=gP p;have hA:=gP ha;have hB:=gP hb;have p1:=iq (by omega:a.length<=M);have p2:=iq (by omega:b.length<=M);have p3:=cE M;rcases j with j|j
  ·rw[j]at q;omega
  ·rw[j]at q;have:=ba p;have:=gF M;omega
theorem nG{n:Nat}{a b:List Int}(J:1000<=n)(ha:Dig a)(hb:Dig b)(T:a.length<=400)(lb:b.length<=a.length)(hle:vl b<=vl a):Ok (iP n a b) fun r=>Can r/\vl r=vl a-vl b:=by
 unfold iP;refine Ok.gd (by simp) (Ok.gd (by simp;omega) (Ok.gd (by simp;omega) ?_));refine Ok.bd (R:=fun r=>Dig r/\r.length<=900/\vl r=vl a-vl b) ?_ (fun r h=>Ok.bd (sI J h.1 h.2.1) fun z I=>aw.2 ⟨I.1,I.2.trans h.2.2⟩);refine dD (fun x:List Int×Int×Int=>∃k:Nat,x.2.2=(k:Int)/\k<=a.length/\x.1.length=a.length/\Dig x.1/\(x.2.1=0\/x.2.1=1)/\vk x.1 k-pB k*x.2.1=vk a k-vk b k) (fun x=>a.length-x.2.2.toNat) ?_ n _
  ⟨0,rfl,by omega,by simp,qE _,.inl rfl,by simp[jn]⟩ (by simp;omega)
 rintro again ⟨out,c,x⟩ ⟨k,hx,U,C,p,j,q⟩ M;simp only at hx C p j q;subst hx;dsimp only;rw[List.length_replicate,Int.toNat_natCast,Du];have Y:=cB ha k;have db:=cB hb k;refine Ok.cd (fun h=>?_) (fun h=>?_)
 ·have D:k<a.length:=by simp at h;omega
  show Ok (gdO _ _) _;refine Ok.gd (by rw[aR];simpa using D) ?_;rw[dY];generalize hs:aa .u32 (b.getD k 0+c)=s;have N:s=b.getD k 0+c:=by rw[<-hs,bf (by omega) (by omega)]
  have step:∀d m,(0<=d/\d<1000000000)->(m=0\/m=1)->a.getD k 0-s=d-1000000000*m->Ok (again (out.set k d,m,((k+1:Nat):Int))) fun r=>Dig r/\r.length<=900/\vl r=vl a-vl b:=by
   intro d m hd hc O;refine M _ ⟨k+1,rfl,by omega,by simpa using C,jS p hd,hc,?_⟩ (by simp;omega);simp only;rw[C2 (by omega),fC,fC,cE];have:a.getD k 0-b.getD k 0-c=d-1000000000*m:=by omega
   grind
  rw[jR (by omega),aR,Int.toNat_natCast];refine Ok.cd (fun h=>?_) (fun h=>?_)
  ·have E:a.getD k 0<s:=by simpa using h
   rw[bf (n:=a.getD k 0+1000000000) (by omega) (by omega),bf (by omega) (by omega)];exact Ok.gd (by simp;omega) (step _ 1 (by omega) (.inr rfl) (by omega))
  ·have E:s<=a.getD k 0:=by simpa using h
   rw[bf (by omega) (by omega)];exact Ok.gd (by simp;omega) (step _ 0 (by omega) (.inl rfl) (by omega))
 ·have D:k=a.length:=by simp at h;omega
  subst D;refine aw.2 ⟨p,by omega,?_⟩;rw[gp (by omega),gp (by omega),gp (by omega)]at q;have:=gP p;rw[C]at this;rcases j with j|j
  ·rw[j]at q;omega
  ·rw[j]at q;omega
theorem mT{n:Nat}{a b:List Int}(ha:Can a)(hb:Can b)(m:a.length<=400)(lb:b.length<=400):fW n a b=some (sgn (vl a-vl b)):=by
 unfold fW;have e1:decide (a.length<=1099511627776)=true:=by simp;omega
 have e2:decide (b.length<=1099511627776)=true:=by simp;omega
 rw[e1,e2];show some _=_;by_cases h:a.length=b.length
 ·rw[decide_eq_true h,cond_true,De ha.dig hb.dig h]
 ·rw[decide_eq_false h,cond_false];unfold pS;by_cases j:a.length<b.length
  ·have:=ck ha.dig hb j;rw[if_pos (by omega),lB (by omega)]
  ·have:=ck hb.dig ha (by omega);rw[if_neg (by omega),if_pos (by omega),qC (by omega)]
end Go.L

