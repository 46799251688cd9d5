import Derived.Test.YtfhhaadcodofnaaGreatChkLD
import Derived.Test.YtfhhaadcodofnaaGreatPl6Chks
import Derived.KernelRfl
import Derived.Test.YtfhhaadcodofnaaGreatPl6Chks
set_option linter.all false
namespace Go.L
open Go Go.Eng
def AR(z:Int):Bool:=decide (z< -1048576)||decide (z>1048576)
theorem E3{z:Int}:(cdO (decide (z<(-1048576))) (some true) (some (decide (z>1048576))):Option Bool)=some (AR z):=by
 unfold AR;cases decide (z< -1048576)<;>rfl
theorem C4{n:Nat}{z:Int}:jC n z=some (AR z):=E3
def qM(z:Int):Bool:=(z != -2147483648)&&AR z
theorem JK(n:Nat)(z:Int):jS n z=some (qM z):=by
 unfold jS qM;rw[C4];cases (z != -2147483648)<;>rfl
theorem Iu{n:Nat}{s:List Int}(j:s.length<n)(m:s.length<=9223372036854775806):bH n s=some (s.any qM):=by
 unfold bH;have:cz n s=some (rD qM s):=sX (fun x=>JK n x) j m;rw[this];show some (decide (rD qM s>=0))=_;rw[xC]
def zT(a:Int):Bool:=decide (2<=a)&&decide (a<=64)
structure Dim (g:an):Prop where
 w:2<=g.Width/\g.Width<=64
 h:2<=g.Height/\g.Height<=64
 s:2<=g.Step/\g.Step<=65536
 e:g.Step.tmod 2=0
 x:AR g.X0=false
 y:AR g.Y0=false
theorem F8{w h:Int}(hw:2<=w/\w<=64)(j:2<=h/\h<=64):4<=w*h/\w*h<=4096:=by
 have h1:=Int.mul_le_mul hw.2 j.2 (by omega) (by omega);have h2:=Int.mul_le_mul hw.1 j.1 (by omega) (by omega);omega
open Classical in
noncomputable def nA(g:an):Int:=if Dim g then(if (g.Z.length:Int)=g.Width*g.Height then(if g.Z.any qM=true then 2 else 0)else 4)else 2
theorem oc{g:an}(h:¬Dim g):nA g=2:=by unfold nA;rw[if_neg h]
theorem Fx{n:Nat}{a:Int}:fM n a=some (zT a):=by
 unfold fM zT;have e:decide (a>=2)=decide (2<=a):=rfl;rw[e];cases decide (2<=a)<;>rfl
theorem FV{n:Nat}(D:4096<n)(g:an):lJ n g=some (nA g):=by
 apply Ok.eq;unfold lJ;refine Ok.bde Fx (Ok.cd (fun h=>aw.2 (oc fun d=>?_).symm) (fun h1=>Ok.bde Fx (Ok.cd (fun h=>aw.2 (oc fun d=>?_).symm) (fun h2=>Ok.cd (fun h=>aw.2 (oc fun d=>?_).symm) (fun j=>Ok.cd (fun h=>aw.2 (oc fun d=>?_).symm) (fun m=>Ok.cd (fun h=>aw.2 (oc fun d=>?_).symm) (fun q=>Ok.bde C4 (Ok.cd (fun h=>aw.2 (oc fun d=>?_).symm) (fun z=>Ok.bde C4 (Ok.cd (fun h=>aw.2 (oc fun d=>?_).symm) (fun C=>?_)))))))))))
 ·have:=d.w;simp[zT]at h;omega
 ·have:=d.h;simp[zT]at h;omega
 ·have:=d.s;have:=dcT h;omega
 ·have:=d.s;have:=dcT h;omega
 ·have:=d.e;simp[this]at h
 ·rw[d.x]at h;cases h
 ·rw[d.y]at h;cases h
 have j:=dcF j;have m:=dcF m;have d:Dim g:=⟨by simp[zT]at h1;omega,by simp[zT]at h2;omega,by omega,by simpa using q,z,C⟩;have ha:=F8 d.w d.h;rw[wrap64_in (n:=g.Width*g.Height) (by omega) (by omega)];unfold nA;rw[if_pos d];refine Ok.cd (fun h=>aw.2 ?_) (fun h=>?_)
 ·rw[if_neg];simpa using h
 ·have h:(g.Z.length:Int)=g.Width*g.Height:=by simpa using h
  rw[if_pos h];refine Ok.bde (Iu (by omega) (by omega)) (Ok.cd (fun h=>aw.2 ?_) (fun h=>aw.2 ?_))
  ·rw[if_pos h]
  ·rw[if_neg (by rw[h];decide)]
theorem D2{γ ρ:Type}[Inhabited γ]{n:Nat}{s:List γ}{p:γ->Bool}{c:ρ}{F:(Int->Option (Sum Unit ρ))->Int->Option (Sum Unit ρ)}(D:s.length<n)(E:s.length<=9223372036854775806)
  (step:∀again (k:Nat),k<s.length->F again (k:Int)=if p (s.getD k default)=true then some (.inr c)else again (Ki ((k:Int)+1))) (m:∀again,F again (s.length:Int)=some (.inl ())):aP n F 0=some (if s.any p=true then .inr c else .inl ()):=by
 apply Ok.eq;refine vB (len:=s.length) (fun k=>∀j,j<k->p (s.getD j default)=false) D E (by intro j q;omega) ?_ ?_
 ·intro again k hk z I;rw[step again k hk];by_cases h:p (s.getD k default)=true
  ·rw[if_pos h];refine aw.2 ?_;rw[if_pos];refine List.any_eq_true.2 ⟨s.getD k default,?_,h⟩;simp only[List.getD,geT hk,Option.getD_some];exact List.getElem_mem hk
  ·rw[if_neg h];exact I fun j q=>by
    by_cases C:j=k
    ·rw[C];simpa using h
    ·exact z j (by omega)
 ·intro again z;rw[m];refine aw.2 ?_;rw[if_neg];intro ha;obtain⟨x,hx,hp⟩:=List.any_eq_true.1 ha;obtain⟨j,q,rfl⟩:=List.getElem_of_mem hx;have:=z j q;simp only[List.getD,geT q,Option.getD_some]at this;rw[this]at hp;cases hp
theorem Dl{g:an}(h:nA g=0):Dim g/\(g.Z.length:Int)=g.Width*g.Height/\g.Z.any qM=false:=by
 unfold nA at h;split at h
 ·rename_i d;split at h
  ·rename_i e;split at h
   ·omega
   ·rename_i f;exact⟨d,e,by simpa using f⟩
  ·omega
 ·omega
def B2{α:Type}(x y:Option α)(Q:α->Prop):Prop:=∃r,x=some r/\y=some r/\Q r
section
variable{α β:Type}{Q:α->Prop}{R:β->Prop}{x y:Option β}{f g:β->Option α}
theorem B2.bde{b:β}(hx:x=some b)(j:y=some b)(k:B2 (f b) (g b) Q):B2 (bdO x f) (bdO y g) Q:=by subst hx j;exact k
theorem B2.bd(h:B2 x y R)(k:∀b,R b->B2 (f b) (g b) Q):B2 (bdO x f) (bdO y g) Q:=by
 obtain⟨b,h1,h2,j⟩:=h;exact B2.bde h1 h2 (k b j)
theorem B2.cd{b:Bool}{t j e m:Option α}(h:b=true->B2 t j Q)(k:b=false->B2 e m Q):B2 (cdO b t e) (cdO b j m) Q:=by
 cases b
 ·exact k rfl
 ·exact h rfl
end
end Go.L


set_option linter.all false
namespace Go.L
open Go Go.Eng
def jB(W:Int)(j i:Nat):List (A3 Int):=[A3.mk (Ki ((Ki ((j:Int)*W))+(i:Int))) (Ki ((Ki ((Ki ((j:Int)*W))+(i:Int)))+1)) (Ki ((Ki ((Ki ((Ki ((j:Int)*W))+(i:Int)))+W))+1)),A3.mk (Ki ((Ki ((j:Int)*W))+(i:Int))) (Ki ((Ki ((Ki ((Ki ((j:Int)*W))+(i:Int)))+W))+1)) (Ki ((Ki ((Ki ((j:Int)*W))+(i:Int)))+W))]
def Eb(W:Int)(w j:Nat):List (A3 Int):=(List.range w).flatMap (jB W j)
def oq(W:Int)(w h:Nat):List (A3 Int):=(List.range h).flatMap (Eb W w)
theorem Bu{W:Int}{w j:Nat}:(List.range (w+1)).flatMap (jB W j)=(List.range w).flatMap (jB W j)++jB W j w:=by rw[List.range_succ,List.flatMap_append];simp
theorem Cf{W:Int}{w h:Nat}:oq W w (h+1)=oq W w h++Eb W w h:=by unfold oq;rw[List.range_succ,List.flatMap_append];simp
theorem AA{W:Int}{j:Nat}:∀w:Nat,((List.range w).flatMap (jB W j)).length=2*w
 |0=>rfl
 |w+1=>by rw[Bu,List.length_append,AA w];simp[jB];omega
theorem xG{W:Int}{w:Nat}:∀h:Nat,(oq W w h).length=2*w*h
 |0=>rfl
 |h+1=>by rw[Cf,List.length_append,xG h,Eb,AA,Nat.mul_succ]
def pg(Z:List Int)(t:A3 Int):Bool:=(gt Z t.e0 != -2147483648)&&((gt Z t.e1 != -2147483648)&&(gt Z t.e2 != -2147483648))
theorem Bo{L:List (A3 Int)}{p:A3 Int->Bool}{k:Nat}(h:k<L.length):(L.take (k+1)).filter p=(L.take k).filter p++(if p (L.getD k default)=true then[L.getD k default]else[]):=by
 rw[List.take_add_one,geT h,List.filter_append];have:L.getD k default=L[k]:=by simp[List.getD,geT h]
 rw[this];by_cases hp:p L[k]=true
 ·simp[hp]
 ·simp[hp]
structure Gd (g:an) (w h:Nat):Prop where
 dim:Dim g
 W:g.Width=(w:Int)
 H:g.Height=(h:Int)
 w1:2<=w/\w<=64
 h1:2<=h/\h<=64
 m:g.Z.length=w*h
theorem I4{g:an}(h:nA g=0):∃w h:Nat,Gd g w h:=by
 obtain⟨d,e,_⟩:=Dl h;have:=d.w;have:=d.h;have j:g.Width=((g.Width.toNat:Nat):Int):=by omega
 have hH:g.Height=((g.Height.toNat:Nat):Int):=by omega
 refine⟨g.Width.toNat,g.Height.toNat,d,j,hH,by omega,by omega,?_⟩;have e2:g.Width*g.Height=((g.Width.toNat*g.Height.toNat:Nat):Int):=by rw[Int.natCast_mul,<-j,<-hH]
 omega
theorem DX{w h j i m:Nat}(hm:m=w*h)(hw:w<=64)(q:h<=64)(z:j<h-1)(C:i<w-1)(k:Nat)(hk:k<2):
  inR ((jB (w:Int) j i).getD k default).e0 m=true/\inR ((jB (w:Int) j i).getD k default).e1 m=true/\inR ((jB (w:Int) j i).getD k default).e2 m=true:=by
 have h1:(j+2)*w<=h*w:=Nat.mul_le_mul_right w (by omega);have h2:h*w<=64*64:=Nat.mul_le_mul q hw;rw[Nat.mul_comm h w,Nat.add_mul]at h1;rw[Nat.mul_comm h w]at h2;have e:((j:Int)*(w:Int))=((j*w:Nat):Int):=(Int.natCast_mul _ _).symm;unfold jB;rw[e];generalize j*w=J at*;generalize w*h=M at*;rw[wrap64_in (n:=(J:Int)) (by omega) (by omega),wrap64_in (n:=(J:Int)+(i:Int)) (by omega) (by omega),wrap64_in (n:=(J:Int)+(i:Int)+1) (by omega) (by omega),wrap64_in (n:=(J:Int)+(i:Int)+(w:Int)) (by omega) (by omega),wrap64_in (n:=(J:Int)+(i:Int)+(w:Int)+1) (by omega) (by omega)];simp only[kY];rcases (show k=0\/k=1 by omega)with rfl|rfl
 ·show(0<=(J:Int)+i/\(J:Int)+i<m)/\(0<=(J:Int)+i+1/\(J:Int)+i+1<m)/\(0<=(J:Int)+i+w+1/\(J:Int)+i+w+1<m);omega
 ·show(0<=(J:Int)+i/\(J:Int)+i<m)/\(0<=(J:Int)+i+w+1/\(J:Int)+i+w+1<m)/\(0<=(J:Int)+i+w/\(J:Int)+i+w<m);omega
def lU(g:an)(w h:Nat):List (A3 Int):=(oq g.Width (w-1) (h-1)).filter (pg g.Z)
theorem GI{W:Int}{w:Nat}{t:A3 Int}:∀{h:Nat},t∈oq W w h->∃j i k,j<h/\i<w/\k<2/\t=(jB W j i).getD k default:=by
 intro h m;unfold oq at m;obtain⟨j,q,m⟩:=List.mem_flatMap.1 m;unfold Eb at m;obtain⟨i,z,m⟩:=List.mem_flatMap.1 m;rw[List.mem_range]at q z;obtain⟨k,hk,e⟩:=List.getElem_of_mem m;refine⟨j,i,k,q,z,hk,?_⟩;simp only[List.getD,geT hk,Option.getD_some];exact e.symm
theorem F9{g:an}{w h:Nat}(q:Gd g w h){t:A3 Int}(z:t∈oq g.Width (w-1) (h-1)):inR t.e0 g.Z.length=true/\inR t.e1 g.Z.length=true/\inR t.e2 g.Z.length=true:=by
 obtain⟨j,i,k,C,D,hk,rfl⟩:=GI z;rw[q.W];exact DX q.m q.w1.2 q.h1.2 C D k hk
end Go.L


set_option linter.all false
namespace Go.L
open Go Go.Eng
theorem dY{l:List Int}{k:Nat}:gt l (k:Int)=l.getD k 0:=jo
theorem kp{k:Nat}(h:k<=4000000000):Ki ((k:Int)+1)=((k+1:Nat):Int):=by rw[wrap64_in (by omega) (by omega)];omega
theorem kG{k:Nat}(h:0<k)(h2:k<=4000000000):Ki ((k:Int)-1)=((k-1:Nat):Int):=by rw[wrap64_in (by omega) (by omega)];omega
theorem tl{n:Nat}{g:List Int}(D:1000<=n)(hd:Dig g)(E:g.length<=900):Ok (ff n g) fun r=>Can r/\vl r=vl g:=by
 unfold ff;refine Ok.bd (R:=fun r=>Can r/\vl r=vl g) ?_ (fun I h=>aw.2 h);refine eE (fun l:List Int=>Dig l/\vl l=vl g/\l.length<=g.length) (fun l=>l.length) ?_ n g ⟨hd,rfl,Nat.le_refl _⟩ (by omega);rintro again l ⟨h1,h2,J⟩ z;refine Ok.cd (fun h=>?_) (fun h=>?_)
 ·have m:0<l.length:=by simpa using h
  rw[kG m (by omega)];refine Ok.gd (by rw[bj];simp;omega) ?_;rw[dY];refine Ok.cd (fun h=>?_) (fun h=>?_)
  ·refine Ok.gd (uZ.2 (by omega)) ?_;have e:(l.drop (0:Int).toNat).take (((l.length-1:Nat):Int).toNat-(0:Int).toNat)=l.take (l.length-1):=by simp
   rw[e];have C:l.getD (l.length-1) 0=0:=by simpa using h
   refine z _ ⟨sT h1 _,?_,?_⟩ ?_
   ·rw[Ah (by omega) ?_,h2];intro j N;by_cases q:j=l.length-1
    ·rw[q];exact C
    ·simp[List.getD,List.getElem?_eq_none (by omega:l.length<=j)]
   ·rw[List.length_take];omega
   ·rw[List.length_take];omega
  ·refine aw.2 ⟨Be h1 (.inr ?_),h2⟩;simpa using h
 ·have:l=[]:=by simpa using h
  subst this;exact aw.2 ⟨trivial,h2⟩
theorem eM{n:Nat}{g:List Int}(j:1000<=n)(neg:Bool)(hd:Dig g)(m:g.length<=900):Ok (cv n neg g) fun z=>isI z.Negative z.Groups (if neg then-vl g else vl g):=by
 unfold cv;refine Ok.bd (tl j hd m) ?_;rintro r ⟨h1,h2⟩;refine Ok.cd (fun h=>?_) (fun h=>?_)
 ·have:r=[]:=by simpa using h
  subst this;refine aw.2 (show isI false [] _ from⟨trivial,(fun h=>absurd h (by decide)),?_⟩);rw[<-h2];cases neg<;>rfl
 ·refine aw.2 ⟨h1,fun _=>?_,?_⟩
  ·rintro rfl;simp at h
  ·rw[<-h2]
theorem mq{n:Nat}{v:Int}(O:1000<=n)(D:0<=v)(T:v<18446744073709551616):Ok (dm n v) fun r=>Can r/\vl r=v/\r.length<=3:=by
 unfold dm;refine Ok.bd (R:=fun r=>Can r/\vl r=v/\r.length<=3) ?_ (fun U h=>aw.2 h);refine eE (fun x:Int×List Int=>Dig x.2/\0<=x.1/\vl x.2+pB x.2.length*x.1=v/\x.2.length<=3/\(x.1=0->Can x.2)) (fun x=>4-x.2.length) ?_ n (v,[]) ⟨oA,D,by show 0+1*v=v;omega,by simp,fun _=>trivial⟩ (by simp;omega);rintro again ⟨m,g⟩ ⟨h1,h2,q,z,C⟩ E;simp only at h1 h2 q z C;have Y:=bn h1;have hp:=iO g.length;have I:m<=v:=by
  have:m<=pB g.length*m:=by
   have:=mrT hp h2;omega
  omega
 refine Ok.cd (fun h=>?_) (fun h=>?_)
 ·have hm:0<m:=by simpa using h
  have hlen:g.length<=2:=by
   by_cases h:g.length<=2
   ·exact h
   ·have J:g.length=3:=by omega
    rw[J]at q;have:pB 3=1000000000000000000000000000:=rfl;rw[this]at q;omega
  refine Ok.gd (by simp;omega) (Ok.gd (by simp;omega) ?_);have e1:m.tdiv 1000000000=m / 1000000000:=Int.tdiv_eq_ediv_of_nonneg h2;have e2:m.tmod 1000000000=m%1000000000:=Int.tmod_eq_emod_of_nonneg h2;rw[e1,e2,aI (by omega) (by omega),bt (by omega) (by omega)];have j:0<=m%1000000000/\m%1000000000<1000000000:=by omega
  refine E _ ⟨lN.2 ⟨h1,gI.2 j⟩,by simp only;omega,?_,by simp;omega,fun N=>xF h1 j (by simp only at N;omega)⟩ (by simp;omega);simp only;rw[mR,iP,List.length_append,List.length_singleton,df];have:m=m%1000000000+1000000000*(m / 1000000000):=by omega
  rw[<-q];grind
 ·have hm:m=0:=by simp at h;omega
  subst hm;exact aw.2 ⟨C rfl,by omega,z⟩
theorem zZ{n:Nat}{v:Int}(q:1000<=n)(D:-9223372036854775808<=v)(E:v<=9223372036854775807):Ok (fZ n v) fun z=>isI z.Negative z.Groups v:=by
 unfold fZ;refine Ok.cd (fun h=>?_) (fun h=>?_)
 ·have j:v<0:=by simpa using h
  have e:ae .u64 (0-ae .u64 v)=-v:=by
   rw[lI,lI,IntKind.wrap_u64,IntKind.wrap_u64];omega
  rw[e];refine Ok.bd (mq q (by omega) (by omega)) ?_;rintro r ⟨h1,h2,C⟩;refine Ok.bd (eM q true h1.dig (by omega)) ?_;intro z m;rw[h2]at m;refine aw.2 ?_;simpa using m
 ·have j:0<=v:=by simpa using h
  rw[aI j (by omega)];refine Ok.bd (mq q (by omega) (by omega)) ?_;rintro r ⟨h1,h2,C⟩;refine Ok.bd (eM q false h1.dig (by omega)) ?_;intro z m;rw[h2]at m;exact aw.2 m
theorem mi{n:Nat}{x:ai}{v:Int}(q:1000<=n)(z:x.Groups.length<=900)(h:isI x.Negative x.Groups v):eh n x=some true:=by
 obtain⟨h1,h2,C⟩:=h;unfold eh;by_cases hx:x.Groups=[]
 ·have:x.Negative=false:=by cases m:x.Negative with|false=>rfl|true=>exact absurd hx (h2 m)
  rw[hx,this];rfl
 ·have j:0<x.Groups.length:=List.length_pos_iff.2 hx;have e:(((x.Groups.length:Int):Int)==0)=false:=by simp[hx]
  rw[e];show gdO _ _=_;rw[kG j (by omega),bj,dY];have e1:decide (x.Groups.length-1<x.Groups.length)=true:=by simp;omega
  have e2:(x.Groups.getD (x.Groups.length-1) 0!=0)=true:=by simpa using sb h1 hx
  rw[e1,e2];show bdO (aZ n x.Groups) _=_;unfold aZ;have:bx n x.Groups=some (rD (fun g=>decide (g>=1000000000)) x.Groups):=sX (fun x=>rfl) (by omega) (by omega);rw[this];show some (!decide (rD _ x.Groups>=0))=_;rw[xC];have:x.Groups.any (fun g=>decide (g>=1000000000))=false:=by
   rw[List.any_eq_false];intro d hd;have:=h1.dig d hd;simp;omega
  rw[this];rfl
theorem ka{n:Nat}{x:ai}{v:Int}(j:1000<=n)(m:x.Groups.length<=900)(h:isI x.Negative x.Groups v):ch n x=some x.Groups:=by
 unfold ch;rw[mi j m h];rfl
theorem kW{n:Nat}{x:ai}{v:Int}(j:1000<=n)(m:x.Groups.length<=900)(h:isI x.Negative x.Groups v):dC n x=some (sgn v):=by
 unfold dC;rw[ka j m h,DT h];show cdO _ _ _=_;by_cases hx:x.Groups=[]
 ·rw[hx];rfl
 ·have e:(((x.Groups.length:Int):Int)==0)=false:=by simp[hx]
  rw[e,if_neg hx];cases x.Negative<;>rfl
theorem Dd{n:Nat}{l:List Int}{k:Nat}:iF n l (k:Int)=some (l.getD k 0):=by
 unfold iF;by_cases h:k<l.length
 ·have e:decide ((k:Int)<(l.length:Int))=true:=by simp;omega
  rw[e,bj,dY];have e:decide (k<l.length)=true:=by simpa using h
  rw[e];rfl
 ·have e:decide ((k:Int)<(l.length:Int))=false:=by simp;omega
  rw[e];have:l.getD k 0=0:=by simp[List.getD,List.getElem?_eq_none (by omega:l.length<=k)]
  rw[this];rfl
end Go.L


set_option linter.all false
namespace Go.L
open Go Go.Eng
theorem Ay{n:Nat}{a b:List Int}(J:1000<=n)(ha:Dig a)(hb:Dig b)(Y:a.length<=400)(lb:b.length<=400):Ok (lj n a b) fun r=>Can r/\vl r=vl a+vl b:=by
 unfold lj;obtain⟨M,N,h1,h2,h3⟩:∃M:Nat,mx (a.length:Int) (b.length:Int)=(M:Int)/\a.length<=M/\b.length<=M/\M<=400:=by
  unfold mx;split
  ·exact⟨_,rfl,by omega,by omega,by omega⟩
  ·exact⟨_,rfl,by omega,by omega,by omega⟩
 rw[N,kp (by omega)];refine Ok.gd (by simp;try omega) (Ok.gd (by simp;try omega) (Ok.gd (by simp;try omega) ?_));refine Ok.bd (R:=fun r=>Dig r/\r.length<=900/\vl r=vl a+vl b) ?_ (fun r h=>Ok.bd (tl J h.1 h.2.1) fun z E=>aw.2 ⟨E.1,E.2.trans h.2.2⟩);refine eE (fun x:List Int×Int×Int=>∃k:Nat,x.2.2=(k:Int)/\k<=M+1/\x.1.length=M+1/\Dig x.1/\(x.2.1=0\/x.2.1=1)/\vk x.1 k+pB k*x.2.1=vk a k+vk b k) (fun x=>M+1-x.2.2.toNat) ?_ n _
  ⟨0,rfl,by omega,by simp,rI _,.inl rfl,by simp[jK]⟩ (by simp;omega)
 rintro again ⟨out,c,x⟩ ⟨k,hx,h4,I,q,j,C⟩ O;simp only at hx I q j C;subst hx;dsimp only;rw[List.length_replicate,Int.toNat_natCast,Dd,Dd];have da:=cW ha k;have db:=cW hb k;refine Ok.cd (fun h=>?_) (fun h=>?_)
 ·have hk:k<M+1:=by simp at h;omega
  show Ok (cdO _ _ _) _;generalize hs:ae .u32 (ae .u32 (a.getD k 0+b.getD k 0)+c)=s;have T:s=a.getD k 0+b.getD k 0+c:=by rw[<-hs,bt (n:=a.getD k 0+b.getD k 0) (by omega) (by omega),bt (by omega) (by omega)]
  have step:∀d m,(0<=d/\d<1000000000)->(m=0\/m=1)->s=d+1000000000*m->Ok (again (out.set k d,m,((k+1:Nat):Int))) fun r=>Dig r/\r.length<=900/\vl r=vl a+vl b:=by
   intro d m hd hc U;refine O _ ⟨k+1,rfl,by omega,by simpa using I,ku q hd,hc,?_⟩ (by simp;omega);simp only;rw[Dz (by omega),gp,gp,df];have:a.getD k 0+b.getD k 0+c=d+1000000000*m:=by omega
   grind
  rw[kp (by omega),bj,Int.toNat_natCast];refine Ok.cd (fun h=>?_) (fun h=>?_)
  ·have D:s>=1000000000:=by simpa using h
   rw[bt (by omega) (by omega)];exact Ok.gd (by simp;omega) (step _ 1 (by omega) (.inr rfl) (by omega))
  ·have D:s<1000000000:=by simpa using h
   exact Ok.gd (by simp;omega) (step _ 0 (by omega) (.inl rfl) (by omega))
 ·have hk:k=M+1:=by simp at h;omega
  subst hk;refine aw.2 ⟨q,by omega,?_⟩;rw[ia (by omega),ia (by omega),ia (by omega)]at C;have:=iZ q;have hA:=iZ ha;have hB:=iZ hb;have p1:=jJ (by omega:a.length<=M);have p2:=jJ (by omega:b.length<=M);have p3:=df M;rcases j with j|j
  ·rw[j]at C;omega
  ·rw[j]at C;have:=bn q;have:=iO M;omega
theorem qC{n:Nat}{a b:List Int}(J:1000<=n)(ha:Dig a)(hb:Dig b)(U:a.length<=400)(lb:b.length<=a.length)(hle:vl b<=vl a):Ok (ji n a b) fun r=>Can r/\vl r=vl a-vl b:=by
 unfold ji;refine Ok.gd (by simp) (Ok.gd (by simp;omega) (Ok.gd (by simp;omega) ?_));refine Ok.bd (R:=fun r=>Dig r/\r.length<=900/\vl r=vl a-vl b) ?_ (fun r h=>Ok.bd (tl J h.1 h.2.1) fun z I=>aw.2 ⟨I.1,I.2.trans h.2.2⟩);refine eE (fun x:List Int×Int×Int=>∃k:Nat,x.2.2=(k:Int)/\k<=a.length/\x.1.length=a.length/\Dig x.1/\(x.2.1=0\/x.2.1=1)/\vk x.1 k-pB k*x.2.1=vk a k-vk b k) (fun x=>a.length-x.2.2.toNat) ?_ n _
  ⟨0,rfl,by omega,by simp,rI _,.inl rfl,by simp[jK]⟩ (by simp;omega)
 rintro again ⟨out,c,x⟩ ⟨k,hx,Y,D,q,j,C⟩ N;simp only at hx D q j C;subst hx;dsimp only;rw[List.length_replicate,Int.toNat_natCast,Dd];have da:=cW ha k;have db:=cW hb k;refine Ok.cd (fun h=>?_) (fun h=>?_)
 ·have hk:k<a.length:=by simp at h;omega
  show Ok (gdO _ _) _;refine Ok.gd (by rw[bj];simpa using hk) ?_;rw[dY];generalize hs:ae .u32 (b.getD k 0+c)=s;have O:s=b.getD k 0+c:=by rw[<-hs,bt (by omega) (by omega)]
  have step:∀d m,(0<=d/\d<1000000000)->(m=0\/m=1)->a.getD k 0-s=d-1000000000*m->Ok (again (out.set k d,m,((k+1:Nat):Int))) fun r=>Dig r/\r.length<=900/\vl r=vl a-vl b:=by
   intro d m hd hc T;refine N _ ⟨k+1,rfl,by omega,by simpa using D,ku q hd,hc,?_⟩ (by simp;omega);simp only;rw[Dz (by omega),gp,gp,df];have:a.getD k 0-b.getD k 0-c=d-1000000000*m:=by omega
   grind
  rw[kp (by omega),bj,Int.toNat_natCast];refine Ok.cd (fun h=>?_) (fun h=>?_)
  ·have E:a.getD k 0<s:=by simpa using h
   rw[bt (n:=a.getD k 0+1000000000) (by omega) (by omega),bt (by omega) (by omega)];exact Ok.gd (by simp;omega) (step _ 1 (by omega) (.inr rfl) (by omega))
  ·have E:s<=a.getD k 0:=by simpa using h
   rw[bt (by omega) (by omega)];exact Ok.gd (by simp;omega) (step _ 0 (by omega) (.inl rfl) (by omega))
 ·have hk:k=a.length:=by simp at h;omega
  subst hk;refine aw.2 ⟨q,by omega,?_⟩;rw[ia (by omega),ia (by omega),ia (by omega)]at C;have:=iZ q;rw[D]at this;rcases j with j|j
  ·rw[j]at C;omega
  ·rw[j]at C;omega
theorem oL{n:Nat}{a b:List Int}(ha:Can a)(hb:Can b)(m:a.length<=400)(lb:b.length<=400):gO n a b=some (sgn (vl a-vl b)):=by
 unfold gO;have e1:decide (a.length<=1099511627776)=true:=by simp;omega
 have e2:decide (b.length<=1099511627776)=true:=by simp;omega
 rw[e1,e2];show some _=_;by_cases h:a.length=b.length
 ·rw[decide_eq_true h,cond_true,Dh ha.dig hb.dig h]
 ·rw[decide_eq_false h,cond_false];unfold pV;by_cases j:a.length<b.length
  ·have:=cS ha.dig hb j;rw[if_pos (by omega),nf (by omega)]
  ·have:=cS hb.dig ha (by omega);rw[if_neg (by omega),if_pos (by omega),rj (by omega)]
end Go.L

