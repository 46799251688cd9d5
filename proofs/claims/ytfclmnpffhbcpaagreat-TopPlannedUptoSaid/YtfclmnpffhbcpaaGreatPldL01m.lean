import Derived.Test.YtfclmnpffhbcpaaGreatPldLD
import Derived.Test.YtfclmnpffhbcpaaGreatPl6Plds
set_option linter.all false
namespace Go.L
open Go Go.Eng
theorem fa{l:List Int}{k:Nat}:gt l (k:Int)=l.getD k 0:=dQ
theorem kK{k:Nat}(h:k<=4000000000):Hy ((k:Int)+1)=((k+1:Nat):Int):=by rw[wrap64_in (by omega) (by omega)];omega
theorem mR{k:Nat}(h:0<k)(j:k<=4000000000):Hy ((k:Int)-1)=((k-1:Nat):Int):=by rw[wrap64_in (by omega) (by omega)];omega
theorem sU{n:Nat}{g:List Int}(J:1000<=n)(D:Dig g)(N:g.length<=900):Ok (fm n g) fun r=>Can r/\vl r=vl g:=by
 unfold fm;refine Ok.bd (R:=fun r=>Can r/\vl r=vl g) ?_ (fun O h=>aC.2 h);refine ee (fun l:List Int=>Dig l/\vl l=vl g/\l.length<=g.length) (fun l=>l.length) ?_ n g ⟨D,rfl,Nat.le_refl _⟩ (by omega);rintro again l ⟨h1,z,S⟩ E;refine Ok.cd (fun h=>?_) (fun h=>?_)
 ·have q:0<l.length:=by simpa using h
  rw[mR q (by omega)];refine Ok.gd (by rw[bm];simp;omega) ?_;rw[fa];refine Ok.cd (fun h=>?_) (fun h=>?_)
  ·refine Ok.gd (nJ.2 (by omega)) ?_;have e:(l.drop (0:Int).toNat).take (((l.length-1:Nat):Int).toNat-(0:Int).toNat)=l.take (l.length-1):=by simp
   rw[e];have I:l.getD (l.length-1) 0=0:=by simpa using h
   refine E _ ⟨sQ h1 _,?_,?_⟩ ?_
   ·rw[zm (by omega) ?_,z];intro j T;by_cases C:j=l.length-1
    ·rw[C];exact I
    ·simp[List.getD,List.getElem?_eq_none (by omega:l.length<=j)]
   ·rw[List.length_take];omega
   ·rw[List.length_take];omega
  ·refine aC.2 ⟨zZ h1 (.inr ?_),z⟩;simpa using h
 ·have:l=[]:=by simpa using h
  subst this;exact aC.2 ⟨trivial,z⟩
theorem eD{n:Nat}{g:List Int}(q:1000<=n)(neg:Bool)(C:Dig g)(D:g.length<=900):Ok (cL n neg g) fun z=>isI z.Negative z.Groups (if neg then-vl g else vl g):=by
 unfold cL;refine Ok.bd (sU q C D) ?_;rintro r ⟨h1,j⟩;refine Ok.cd (fun h=>?_) (fun h=>?_)
 ·have:r=[]:=by simpa using h
  subst this;refine aC.2 (show isI false [] _ from⟨trivial,(fun h=>absurd h (by decide)),?_⟩);rw[<-j];cases neg<;>rfl
 ·refine aC.2 ⟨h1,fun _=>?_,?_⟩
  ·rintro rfl;simp at h
  ·rw[<-j]
theorem mD{n:Nat}{v:Int}(S:1000<=n)(E:0<=v)(T:v<18446744073709551616):Ok (dL n v) fun r=>Can r/\vl r=v/\r.length<=3:=by
 unfold dL;refine Ok.bd (R:=fun r=>Can r/\vl r=v/\r.length<=3) ?_ (fun U h=>aC.2 h);refine ee (fun x:Int×List Int=>Dig x.2/\0<=x.1/\vl x.2+pB x.2.length*x.1=v/\x.2.length<=3/\(x.1=0->Can x.2)) (fun x=>4-x.2.length) ?_ n (v,[]) ⟨oO,E,by show 0+1*v=v;omega,by simp,fun _=>trivial⟩ (by simp;omega);rintro again ⟨m,g⟩ ⟨h1,q,z,C,D⟩ I;simp only at h1 q z C D;have Y:=bI h1;have hp:=iv g.length;have J:m<=v:=by
  have:m<=pB g.length*m:=by
   have:=mrT hp q;omega
  omega
 refine Ok.cd (fun h=>?_) (fun h=>?_)
 ·have hm:0<m:=by simpa using h
  have hlen:g.length<=2:=by
   by_cases h:g.length<=2
   ·exact h
   ·have N:g.length=3:=by omega
    rw[N]at z;have:pB 3=1000000000000000000000000000:=rfl;rw[this]at z;omega
  refine Ok.gd (by simp;omega) (Ok.gd (by simp;omega) ?_);have e1:m.tdiv 1000000000=m / 1000000000:=Int.tdiv_eq_ediv_of_nonneg q;have e2:m.tmod 1000000000=m%1000000000:=Int.tmod_eq_emod_of_nonneg q;rw[e1,e2,aO (by omega) (by omega),bU (by omega) (by omega)];have j:0<=m%1000000000/\m%1000000000<1000000000:=by omega
  refine I _ ⟨mc.2 ⟨h1,gz.2 j⟩,by simp only;omega,?_,by simp;omega,fun O=>xc h1 j (by simp only at O;omega)⟩ (by simp;omega);simp only;rw[mQ,iQ,List.length_append,List.length_singleton,dE];have:m=m%1000000000+1000000000*(m / 1000000000):=by omega
  rw[<-z];grind
 ·have hm:m=0:=by simp at h;omega
  subst hm;exact aC.2 ⟨D rfl,by omega,C⟩
theorem xo{n:Nat}{v:Int}(C:1000<=n)(I:-9223372036854775808<=v)(J:v<=9223372036854775807):Ok (gL n v) fun z=>isI z.Negative z.Groups v:=by
 unfold gL;refine Ok.cd (fun h=>?_) (fun h=>?_)
 ·have j:v<0:=by simpa using h
  have e:af .u64 (0-af .u64 v)=-v:=by
   rw[ke,ke,IntKind.wrap_u64,IntKind.wrap_u64];omega
  rw[e];refine Ok.bd (mD C (by omega) (by omega)) ?_;rintro r ⟨h1,D,E⟩;refine Ok.bd (eD C true h1.dig (by omega)) ?_;intro z q;rw[D]at q;refine aC.2 ?_;simpa using q
 ·have j:0<=v:=by simpa using h
  rw[aO j (by omega)];refine Ok.bd (mD C (by omega) (by omega)) ?_;rintro r ⟨h1,D,E⟩;refine Ok.bd (eD C false h1.dig (by omega)) ?_;intro z q;rw[D]at q;exact aC.2 q
theorem mT{n:Nat}{x:aj}{v:Int}(E:1000<=n)(I:x.Groups.length<=900)(h:isI x.Negative x.Groups v):fE n x=some true:=by
 obtain⟨h1,z,J⟩:=h;unfold fE;by_cases j:x.Groups=[]
 ·have:x.Negative=false:=by cases C:x.Negative with|false=>rfl|true=>exact absurd j (z C)
  rw[j,this];rfl
 ·have q:0<x.Groups.length:=List.length_pos_iff.2 j;have e:(((x.Groups.length:Int):Int)==0)=false:=by simp[j]
  rw[e];show gdO _ _=_;rw[mR q (by omega),bm,fa];have e1:decide (x.Groups.length-1<x.Groups.length)=true:=by simp;omega
  have e2:(x.Groups.getD (x.Groups.length-1) 0!=0)=true:=by simpa using sr h1 j
  rw[e1,e2];show bdO (bO n x.Groups) _=_;unfold bO;have:cC n x.Groups=some (uf (fun g=>decide (g>=1000000000)) x.Groups):=AJ (fun x=>rfl) (by omega) (by omega);rw[this];show some (!decide (uf _ x.Groups>=0))=_;rw[Cr];have:x.Groups.any (fun g=>decide (g>=1000000000))=false:=by
   rw[List.any_eq_false];intro d D;have:=h1.dig d D;simp;omega
  rw[this];rfl
theorem iS{n:Nat}{x:aj}{v:Int}(j:1000<=n)(q:x.Groups.length<=900)(h:isI x.Negative x.Groups v):cD n x=some x.Groups:=by
 unfold cD;rw[mT j q h];rfl
theorem lV{n:Nat}{x:aj}{v:Int}(q:1000<=n)(z:x.Groups.length<=900)(h:isI x.Negative x.Groups v):eW n x=some (sgn v):=by
 unfold eW;rw[iS q z h,Cf h];show cdO _ _ _=_;by_cases j:x.Groups=[]
 ·rw[j];rfl
 ·have e:(((x.Groups.length:Int):Int)==0)=false:=by simp[j]
  rw[e,if_neg j];cases x.Negative<;>rfl
theorem CR{n:Nat}{l:List Int}{k:Nat}:iF n l (k:Int)=some (l.getD k 0):=by
 unfold iF;by_cases h:k<l.length
 ·have e:decide ((k:Int)<(l.length:Int))=true:=by simp;omega
  rw[e,bm,fa];have e:decide (k<l.length)=true:=by simpa using h
  rw[e];rfl
 ·have e:decide ((k:Int)<(l.length:Int))=false:=by simp;omega
  rw[e];have:l.getD k 0=0:=by simp[List.getD,List.getElem?_eq_none (by omega:l.length<=k)]
  rw[this];rfl
end Go.L


set_option linter.all false
namespace Go.L
open Go Go.Eng
theorem wZ{n:Nat}{a b:List Int}(T:1000<=n)(I:Dig a)(J:Dig b)(la:a.length<=400)(lb:b.length<=400):Ok (lD n a b) fun r=>Can r/\vl r=vl a+vl b:=by
 unfold lD;obtain⟨M,U,h1,h2,h3⟩:∃M:Nat,mx (a.length:Int) (b.length:Int)=(M:Int)/\a.length<=M/\b.length<=M/\M<=400:=by
  unfold mx;split
  ·exact⟨_,rfl,by omega,by omega,by omega⟩
  ·exact⟨_,rfl,by omega,by omega,by omega⟩
 rw[U,kK (by omega)];refine Ok.gd (by simp;try omega) (Ok.gd (by simp;try omega) (Ok.gd (by simp;try omega) ?_));refine Ok.bd (R:=fun r=>Dig r/\r.length<=900/\vl r=vl a+vl b) ?_ (fun r h=>Ok.bd (sU T h.1 h.2.1) fun z N=>aC.2 ⟨N.1,N.2.trans h.2.2⟩);refine ee (fun x:List Int×Int×Int=>∃k:Nat,x.2.2=(k:Int)/\k<=M+1/\x.1.length=M+1/\Dig x.1/\(x.2.1=0\/x.2.1=1)/\vk x.1 k+pB k*x.2.1=vk a k+vk b k) (fun x=>M+1-x.2.2.toNat) ?_ n _
  ⟨0,rfl,by omega,by simp,ry _,.inl rfl,by simp[jS]⟩ (by simp;omega)
 rintro again ⟨out,c,x⟩ ⟨k,O,h4,S,C,j,D⟩ Y;simp only at O S C j D;subst O;dsimp only;rw[List.length_replicate,Int.toNat_natCast,CR,CR];have da:=dC I k;have db:=dC J k;refine Ok.cd (fun h=>?_) (fun h=>?_)
 ·have hk:k<M+1:=by simp at h;omega
  show Ok (cdO _ _ _) _;generalize hs:af .u32 (af .u32 (a.getD k 0+b.getD k 0)+c)=s;have Z:s=a.getD k 0+b.getD k 0+c:=by rw[<-hs,bU (n:=a.getD k 0+b.getD k 0) (by omega) (by omega),bU (by omega) (by omega)]
  have step:∀d q,(0<=d/\d<1000000000)->(q=0\/q=1)->s=d+1000000000*q->Ok (again (out.set k d,q,((k+1:Nat):Int))) fun r=>Dig r/\r.length<=900/\vl r=vl a+vl b:=by
   intro d q hd hc a1;refine Y _ ⟨k+1,rfl,by omega,by simpa using S,kD C hd,hc,?_⟩ (by simp;omega);simp only;rw[CH (by omega),gk,gk,dE];have:a.getD k 0+b.getD k 0+c=d+1000000000*q:=by omega
   grind
  rw[kK (by omega),bm,Int.toNat_natCast];refine Ok.cd (fun h=>?_) (fun h=>?_)
  ·have E:s>=1000000000:=by simpa using h
   rw[bU (by omega) (by omega)];exact Ok.gd (by simp;omega) (step _ 1 (by omega) (.inr rfl) (by omega))
  ·have E:s<1000000000:=by simpa using h
   exact Ok.gd (by simp;omega) (step _ 0 (by omega) (.inl rfl) (by omega))
 ·have hk:k=M+1:=by simp at h;omega
  subst hk;refine aC.2 ⟨C,by omega,?_⟩;rw[gV (by omega),gV (by omega),gV (by omega)]at D;have:=iu C;have hA:=iu I;have hB:=iu J;have p1:=iX (by omega:a.length<=M);have p2:=iX (by omega:b.length<=M);have p3:=dE M;rcases j with j|j
  ·rw[j]at D;omega
  ·rw[j]at D;have:=bI C;have:=iv M;omega
theorem nX{n:Nat}{a b:List Int}(O:1000<=n)(S:Dig a)(T:Dig b)(la:a.length<=400)(lb:b.length<=a.length)(hle:vl b<=vl a):Ok (jr n a b) fun r=>Can r/\vl r=vl a-vl b:=by
 unfold jr;refine Ok.gd (by simp) (Ok.gd (by simp;omega) (Ok.gd (by simp;omega) ?_));refine Ok.bd (R:=fun r=>Dig r/\r.length<=900/\vl r=vl a-vl b) ?_ (fun r h=>Ok.bd (sU O h.1 h.2.1) fun z J=>aC.2 ⟨J.1,J.2.trans h.2.2⟩);refine ee (fun x:List Int×Int×Int=>∃k:Nat,x.2.2=(k:Int)/\k<=a.length/\x.1.length=a.length/\Dig x.1/\(x.2.1=0\/x.2.1=1)/\vk x.1 k-pB k*x.2.1=vk a k-vk b k) (fun x=>a.length-x.2.2.toNat) ?_ n _
  ⟨0,rfl,by omega,by simp,ry _,.inl rfl,by simp[jS]⟩ (by simp;omega)
 rintro again ⟨out,c,x⟩ ⟨k,N,h4,E,C,j,D⟩ U;simp only at N E C j D;subst N;dsimp only;rw[List.length_replicate,Int.toNat_natCast,CR];have da:=dC S k;have db:=dC T k;refine Ok.cd (fun h=>?_) (fun h=>?_)
 ·have hk:k<a.length:=by simp at h;omega
  show Ok (gdO _ _) _;refine Ok.gd (by rw[bm];simpa using hk) ?_;rw[fa];generalize hs:af .u32 (b.getD k 0+c)=s;have Y:s=b.getD k 0+c:=by rw[<-hs,bU (by omega) (by omega)]
  have step:∀d q,(0<=d/\d<1000000000)->(q=0\/q=1)->a.getD k 0-s=d-1000000000*q->Ok (again (out.set k d,q,((k+1:Nat):Int))) fun r=>Dig r/\r.length<=900/\vl r=vl a-vl b:=by
   intro d q Z hc a1;refine U _ ⟨k+1,rfl,by omega,by simpa using E,kD C Z,hc,?_⟩ (by simp;omega);simp only;rw[CH (by omega),gk,gk,dE];have:a.getD k 0-b.getD k 0-c=d-1000000000*q:=by omega
   grind
  rw[kK (by omega),bm,Int.toNat_natCast];refine Ok.cd (fun h=>?_) (fun h=>?_)
  ·have I:a.getD k 0<s:=by simpa using h
   rw[bU (n:=a.getD k 0+1000000000) (by omega) (by omega),bU (by omega) (by omega)];exact Ok.gd (by simp;omega) (step _ 1 (by omega) (.inr rfl) (by omega))
  ·have I:s<=a.getD k 0:=by simpa using h
   rw[bU (by omega) (by omega)];exact Ok.gd (by simp;omega) (step _ 0 (by omega) (.inl rfl) (by omega))
 ·have hk:k=a.length:=by simp at h;omega
  subst hk;refine aC.2 ⟨C,by omega,?_⟩;rw[gV (by omega),gV (by omega),gV (by omega)]at D;have:=iu C;rw[E]at this;rcases j with j|j
  ·rw[j]at D;omega
  ·rw[j]at D;omega
theorem nB{n:Nat}{a b:List Int}(j:Can a)(q:Can b)(C:a.length<=400)(lb:b.length<=400):gM n a b=some (sgn (vl a-vl b)):=by
 unfold gM;have e1:decide (a.length<=1099511627776)=true:=by simp;omega
 have e2:decide (b.length<=1099511627776)=true:=by simp;omega
 rw[e1,e2];show some _=_;by_cases h:a.length=b.length
 ·rw[decide_eq_true h,cond_true,Ck j.dig q.dig h]
 ·rw[decide_eq_false h,cond_false];unfold qg;by_cases z:a.length<b.length
  ·have:=de j.dig q z;rw[if_pos (by omega),me (by omega)]
  ·have:=de q.dig j (by omega);rw[if_neg (by omega),if_pos (by omega),pP (by omega)]
end Go.L


set_option linter.all false
namespace Go.L
open Go Go.Eng
theorem nQ{j k:Nat}(h:j<=4000000000)(q:k<=4000000000):Hy ((j:Int)+(k:Int))=((j+k:Nat):Int):=by rw[wrap64_in (by omega) (by omega)];omega
theorem xV{p q o c:Int}(hp:0<=p/\p<1000000000)(j:0<=q/\q<1000000000)(z:0<=o/\o<1000000000)(hc:0<=c/\c<1000000000):
  af .u64 ((af .u64 ((af .u64 o)+(af .u64 ((af .u64 p)*(af .u64 q)))))+c)=o+p*q+c/\0<=o+p*q+c/\o+p*q+c<1000000000000000000:=by
 have h1:0<=p*q:=Int.mul_nonneg hp.1 j.1;have C:p*q<=999999999*999999999:=Int.mul_le_mul (by omega) (by omega) j.1 (by omega);rw[aO (n:=o) (by omega) (by omega),aO (n:=p) (by omega) (by omega),aO (n:=q) (by omega) (by omega),aO (n:=p*q) (by omega) (by omega),aO (n:=o+p*q) (by omega) (by omega),aO (by omega) (by omega)];exact⟨rfl,by omega,by omega⟩
theorem uH{l:List Int}{j:Nat}(h:l.length<=j):l.getD j 0=0:=by simp[List.getD,List.getElem?_eq_none h]
theorem vH{k j:Nat}:(List.replicate k (0:Int)).getD j 0=0:=by
 by_cases h:j<k
 ·simp[List.getD,h]
 ·exact uH (by simpa using h)
theorem yd{n:Nat}{a b:List Int}(hn:1000<=n)(ha:Dig a)(hb:Dig b)(la:a.length<=400)(lb:b.length<=400):Ok (kr n a b) fun r=>Can r/\vl r=vl a*vl b:=by
 unfold kr;rw[nQ (by omega) (by omega)];refine Ok.gd (by simp;try omega) (Ok.gd (by simp;try omega) (Ok.gd (by simp;try omega) ?_));refine Ok.bd (R:=fun r=>Dig r/\r.length<=900/\vl r=vl a*vl b) ?_ (fun r h=>Ok.bd (sU hn h.1 h.2.1) fun z Z=>aC.2 ⟨Z.1,Z.2.trans h.2.2⟩);refine ee (fun x:List Int×Int=>∃i:Nat,x.2=(i:Int)/\i<=a.length/\x.1.length=a.length+b.length/\Dig x.1/\(∀j,i+b.length<=j->x.1.getD j 0=0)/\vl x.1=vk a i*vl b) (fun x=>a.length-x.2.toNat) ?_ n _
  ⟨0,rfl,by omega,(by simp;omega),ry _,fun j _=>vH,by simp[jS,we]⟩ (by simp;omega)
 rintro again ⟨out,x⟩ ⟨i,hx,h4,h5,T,h7,O⟩ ih;simp only at hx h5 T h7 O;subst hx;dsimp only;have da:=dC ha i;refine Ok.cd (fun h=>?_) (fun h=>?_)
 ·have hi:i<a.length:=by simp at h;omega
  refine Ok.gd (by rw[bm];simpa using hi) ?_;rw[fa];refine Ok.bd (R:=fun r=>r.1.length=a.length+b.length/\Dig r.1/\(0<=r.2/\r.2<1000000000)/\(∀j,i+b.length<=j->r.1.getD j 0=0)/\vl r.1+pB (i+b.length)*r.2=vk a i*vl b+pB i*a.getD i 0*vl b) ?_ ?_
  ·refine ee (fun y:List Int×Int×Int=>∃j:Nat,y.2.2=(j:Int)/\j<=b.length/\y.1.length=a.length+b.length/\Dig y.1/\(0<=y.2.1/\y.2.1<1000000000)/\(∀m,i+b.length<=m->y.1.getD m 0=0)/\vl y.1+pB (i+j)*y.2.1=vk a i*vl b+pB i*a.getD i 0*vk b j) (fun y=>b.length-y.2.2.toNat) ?_ n _
    ⟨0,rfl,by omega,h5,T,by simp,h7,by simp[jS,O]⟩ (by simp;omega)
   rintro S ⟨q,c,y⟩ ⟨j,hy,k4,E,C,I,D,J⟩ U;simp only at hy E C I D J;subst hy;dsimp only;have db:=dC hb j;refine Ok.cd (fun h=>?_) (fun h=>?_)
   ·have Y:j<b.length:=by simp at h;omega
    refine Ok.gd (by rw[bm];simpa using Y) ?_;rw[nQ (by omega) (by omega)];refine Ok.gd (by rw[bm];simp;omega) ?_;rw[fa,fa];have N:=dC C (i+j);obtain⟨e1,e2,e3⟩:=xV da db N I;rw[e1];generalize hs:q.getD (i+j) 0+a.getD i 0*b.getD j 0+c=s at e1 e2 e3;have t1:s.tdiv 1000000000=s / 1000000000:=Int.tdiv_eq_ediv_of_nonneg e2;have t2:s.tmod 1000000000=s%1000000000:=Int.tmod_eq_emod_of_nonneg e2;rw[t1,t2,bU (by omega) (by omega),aO (by omega) (by omega),kK (by omega),Int.toNat_natCast];refine U _ ⟨j+1,rfl,by omega,by simpa using E,kD C (by omega),by simp only;omega,?_,?_⟩ (by simp;omega)
    ·intro m hm;simp only;rw[jL (by omega)];exact D m hm
    ·simp only;rw[nz (by omega),gk,<-Nat.add_assoc,dE,mB];rw[mB]at J;have:s=s%1000000000+1000000000*(s / 1000000000):=by omega
     grind
   ·have Y:j=b.length:=by simp at h;omega
    subst Y;rw[gV (l:=b) (by omega)]at J;exact aC.2 ⟨E,C,I,D,J⟩
  ·rintro⟨q,c⟩ ⟨E,C,I,D,J⟩;simp only at E C I D J;dsimp only;rw[nQ (by omega) (by omega)];refine Ok.gd (by rw[bm];simp;omega) ?_;rw[bU (by omega) (by omega),kK (by omega),Int.toNat_natCast];refine ih _ ⟨i+1,rfl,by omega,by simpa using E,kD C I,?_,?_⟩ (by simp;omega)
   ·intro m hm;simp only;rw[jL (by omega)];exact D m (by omega)
   ·simp only;rw[nz (by omega),gk,D _ (by omega)];grind
 ·have hi:i=a.length:=by simp at h;omega
  subst hi;rw[gV (l:=a) (by omega)]at O;exact aC.2 ⟨T,by omega,O⟩
theorem oz{n:Nat}{x y:aj}{v w:Int}(C:1000<=n)(j:isI x.Negative x.Groups v)(q:isI y.Negative y.Groups w)(I:x.Groups.length<=400)(J:y.Groups.length<=400):Ok (fy n x y) fun z=>isI z.Negative z.Groups (v*w):=by
 unfold fy;refine Ok.bde (iS C (by omega) j) (Ok.bde (iS C (by omega) q) ?_);refine Ok.bd (yd C j.1.dig q.1.dig I J) ?_;rintro r ⟨h1,D⟩;have hlen:r.length<=900:=by
  have:=lW h1 (k:=x.Groups.length+y.Groups.length) (by
   have N:=iu j.1.dig;have a2:=iu q.1.dig;have a3:=bI j.1.dig;have a4:=bI q.1.dig;rw[D,mB];have O:=iv x.Groups.length;have:vl x.Groups*vl y.Groups<=pB x.Groups.length*vl y.Groups:=mrT (by omega) a4;have:pB x.Groups.length*vl y.Groups<pB x.Groups.length*pB y.Groups.length:=Int.mul_lt_mul_of_pos_left a2 (by omega);omega)
  omega
 refine Ok.bd (eD C _ h1.dig hlen) ?_;intro z E;refine aC.2 ?_;rw[D]at E;have:v*w=if (x.Negative !=y.Negative)=true then-(vl x.Groups*vl y.Groups)else vl x.Groups*vl y.Groups:=by
  rw[j.2.2,q.2.2];cases x.Negative<;>cases y.Negative<;>simp<;>grind
 rw[this];exact E
theorem FC{n:Nat}{p q:Bool}{a b:List Int}{v w:Int}(E:1000<=n)(C:Can a)(ex:v=if p then-vl a else vl a)(D:Can b)(S:w=if q then-vl b else vl b)(O:a.length<=400)(R:b.length<=400):Ok (my n p a q b) fun z=>isI z.Negative z.Groups (v+w):=by
 unfold my;have T:∀{r:List Int},Can r->vl r<=vl a+vl b->r.length<=900:=by
  intro r U Y;have:=lW U (k:=401) (by
   have Z:=iu C.dig;have a2:=iu D.dig;have p1:=iX O;have p2:=iX R;have p3:pB 401=1000000000*pB 400:=dE 400;have:=iv 400;omega)
  omega
 have pa:=bI C.dig;have pb:=bI D.dig;refine Ok.cd (fun h=>?_) (fun h=>?_)
 ·have j:p=q:=by simpa using h
  subst j;refine Ok.bd (wZ E C.dig D.dig O R) ?_;rintro r ⟨h1,I⟩;refine Ok.bd (eD E _ h1.dig (T h1 (by omega))) fun z J=>aC.2 ?_
  have:v+w=if p=true then-vl r else vl r:=by rw[ex,S,I];cases p<;>simp<;>omega
  rw[this];exact J
 ·rw[nB C D O R];show Ok (cdO _ _ _) _;have j:p=!q:=by cases p<;>cases q<;>simp at h ⊢
  refine Ok.cd (fun h=>?_) (fun h=>?_)
  ·have hle:vl b<=vl a:=by
    by_cases N:vl a-vl b<0
    ·rw[me N]at h;simp at h
    ·omega
   have hlen:b.length<=a.length:=by
    by_cases N:a.length<b.length
    ·have:=de C.dig D N;omega
    ·omega
   refine Ok.bd (nX E C.dig D.dig O hlen hle) ?_;rintro r ⟨h1,I⟩;refine Ok.bd (eD E _ h1.dig (T h1 (by omega))) fun z J=>aC.2 ?_
   have:v+w=if p=true then-vl r else vl r:=by rw[ex,S,I,j];cases q<;>simp<;>omega
   rw[this];exact J
  ·have hle:vl a<vl b:=by
    rcases dS (vl a-vl b)with⟨g1,g2⟩|⟨g1,g2⟩|⟨g1,g2⟩
    ·omega
    ·rw[g2]at h;simp at h
    ·rw[g2]at h;simp at h
   have hlen:a.length<=b.length:=by
    by_cases N:b.length<a.length
    ·have:=de D.dig C N;omega
    ·omega
   refine Ok.bd (nX E D.dig C.dig R hlen (by omega)) ?_;rintro r ⟨h1,I⟩;refine Ok.bd (eD E _ h1.dig (T h1 (by omega))) fun z J=>aC.2 ?_
   have:v+w=if q=true then-vl r else vl r:=by rw[ex,S,I,j];cases q<;>simp<;>omega
   rw[this];exact J
theorem FU{n:Nat}{p q:Bool}{a b:List Int}{v w:Int}(D:1000<=n)(j:isI p a v)(C:isI q b w)(E:a.length<=400)(I:b.length<=400):Ok (my n p a q b) fun z=>isI z.Negative z.Groups (v+w):=FC D j.1 j.2.2 C.1 C.2.2 E I
theorem zl{n:Nat}{x y:aj}{v w:Int}(j:1000<=n)(q:isI x.Negative x.Groups v)(C:isI y.Negative y.Groups w)(D:x.Groups.length<=400)(E:y.Groups.length<=400):Ok (nW n x y) fun z=>isI z.Negative z.Groups (v+w):=by
 unfold nW;refine Ok.bde (iS j (by omega) q) (Ok.bde (iS j (by omega) C) ?_);exact Ok.bd (FU j q C D E) fun z I=>aC.2 I
end Go.L

