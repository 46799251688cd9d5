import Derived.Test.YtlhnaccgnegjdaaGreatNesLD
import Derived.Test.YtlhnaccgnegjdaaGreatPl6Ness
set_option linter.all false
namespace Go.L.R
open Go Go.Eng Go.L
theorem dY{l:List Int}{k:Nat}:gt l (k:Int)=l.getD k 0:=jV
theorem jR{k:Nat}(h:k<=4000000000):Jy ((k:Int)+1)=((k+1:Nat):Int):=by rw[wrap64_in (by omega) (by omega)];omega
theorem lY{k:Nat}(h:0<k)(h2:k<=4000000000):Jy ((k:Int)-1)=((k-1:Nat):Int):=by rw[wrap64_in (by omega) (by omega)];omega
theorem nk{j k:Nat}(h:j<=4000000000)(h2:k<=4000000000):Jy ((j:Int)+(k:Int))=((j+k:Nat):Int):=by rw[wrap64_in (by omega) (by omega)];omega
theorem yc{p q o c:Int}(hp:0<=p/\p<1000000000)(j:0<=q/\q<1000000000)(m:0<=o/\o<1000000000)(hc:0<=c/\c<1000000000):
  aa .u64 ((aa .u64 ((aa .u64 o)+(aa .u64 ((aa .u64 p)*(aa .u64 q)))))+c)=o+p*q+c/\0<=o+p*q+c/\o+p*q+c<1000000000000000000:=by
 have h1:0<=p*q:=Int.mul_nonneg hp.1 j.1;have h2:p*q<=999999999*999999999:=Int.mul_le_mul (by omega) (by omega) j.1 (by omega);rw[aF (n:=o) (by omega) (by omega),aF (n:=p) (by omega) (by omega),aF (n:=q) (by omega) (by omega),aF (n:=p*q) (by omega) (by omega),aF (n:=o+p*q) (by omega) (by omega),aF (by omega) (by omega)];exact⟨rfl,by omega,by omega⟩
theorem uI{l:List Int}{j:Nat}(h:l.length<=j):l.getD j 0=0:=by simp[List.getD,List.getElem?_eq_none h]
theorem wc{k j:Nat}:(List.replicate k (0:Int)).getD j 0=0:=by
 by_cases h:j<k
 ·simp[List.getD,h]
 ·exact uI (by simpa using h)
theorem dy{n:Nat}{g:List Int}(M:1000<=n)(neg:Bool)(hd:Dig g)(N:g.length<=900):Ok (aV n neg g) fun z=>isI z.Negative z.Groups (if neg then-vl g else vl g):=by
 unfold aV;refine Ok.bd (R:=fun k:Int=>∃j:Nat,k=(j:Int)/\j<=g.length/\(∀m,j<=m->g.getD m 0=0)/\(0<j->g.getD (j-1) 0≠0)) ?_ ?_
 ·refine dD (fun k:Int=>∃j:Nat,k=(j:Int)/\j<=g.length/\(∀m,j<=m->g.getD m 0=0)) (fun k=>k.toNat) ?_ n _ ⟨g.length,rfl,Nat.le_refl _,fun m hm=>uI hm⟩ (by simp;omega);rintro again k ⟨j,rfl,h1,h2⟩ E;refine Ok.cd (fun h=>?_) (fun h=>?_)
  ·have p:0<j:=by simp at h;omega
   rw[lY p (by omega)];refine Ok.gd (by rw[aR];simp;omega) ?_;rw[dY];refine Ok.cd (fun h=>?_) (fun h=>?_)
   ·refine E _ ⟨j-1,rfl,by omega,fun m hm=>?_⟩ (by simp;omega);by_cases C:m=j-1
    ·rw[C];simpa using h
    ·exact h2 m (by omega)
   ·exact aw.2 ⟨j,rfl,h1,h2,fun _=>by simpa using h⟩
  ·have:j=0:=by simp at h;omega
   subst this;exact aw.2 ⟨0,rfl,by omega,h2,fun h=>by omega⟩
 ·rintro _ ⟨j,rfl,h1,h2,I⟩;have e:(g.drop (0:Int).toNat).take ((j:Int).toNat-(0:Int).toNat)=g.take j:=by simp
  rw[e];have hc:Can (g.take j):=AY (sc hd _) (by
   by_cases q:j=0
   ·left;rw[q];rfl
   ·right;rw[List.length_take,Nat.min_eq_left h1];have:=I (by omega);simpa [List.getD,List.getElem?_take,(by omega:j-1<j)]using this)
  have D:vl (g.take j)=vl g:=Af h1 h2;refine Ok.cd (fun h=>?_) (fun h=>?_)
  ·refine Ok.gd (uW.2 (by omega)) (Ok.gd (by simp;omega) (Ok.gd (by simp;omega) (aw.2 ?_)));subst h;by_cases q:j=0
   ·subst q;refine⟨hc,fun h=>by simp at h,?_⟩;rw[if_pos rfl,<-D];rfl
   ·refine⟨hc,fun _ J=>?_,?_⟩
    ·have:=congrArg List.length J;rw[List.length_take,Nat.min_eq_left h1]at this;exact q this
    ·have:decide ((j:Int)>0)=true:=by simp;omega
     simp only[this,if_true,D]
  ·refine Ok.gd (uW.2 (by omega)) (Ok.gd (by simp;omega) (Ok.gd (by simp;omega) (aw.2 ?_)));subst h;exact⟨hc,fun h=>by simp at h,by simp[D]⟩
theorem lT{n:Nat}{v:Int}(O:1000<=n)(E:0<=v)(T:v<18446744073709551616):Ok (aJ (α:=Int×List Int) (β:=List Int) n (fun again x=>match x with
  |(q,j)=>(
   cdO (decide (q>0)) (
    gdO (decide ((j.length+1)*4<=140737488355328)) (
    gdO (decide (j.length+1<=4611686018427387904)) (
    again (aa .u64 (q.tdiv 1000000000),j++[aa .u32 (q.tmod 1000000000)])
    )
    )
   ) (
    some (j)
   )
  )) (v,[])) fun r=>Can r/\vl r=v/\r.length<=3:=by
 refine dD (fun x:Int×List Int=>Dig x.2/\0<=x.1/\vl x.2+pB x.2.length*x.1=v/\x.2.length<=3/\(x.1=0->Can x.2)) (fun x=>4-x.2.length) ?_ n (v,[]) ⟨og,E,by show 0+1*v=v;omega,by simp,fun _=>trivial⟩ (by simp;omega);rintro again ⟨m,g⟩ ⟨h1,h2,z,C,D⟩ I;simp only at h1 h2 z C D;have U:=ba h1;have hp:=gF g.length;have J:m<=v:=by
  have:m<=pB g.length*m:=by
   have:=mrT hp h2;omega
  omega
 refine Ok.cd (fun h=>?_) (fun h=>?_)
 ·have hm:0<m:=by simpa using h
  have hlen:g.length<=2:=by
   by_cases h:g.length<=2
   ·exact h
   ·have M:g.length=3:=by omega
    rw[M]at z;have:pB 3=1000000000000000000000000000:=rfl;rw[this]at z;omega
  refine Ok.gd (by simp;omega) (Ok.gd (by simp;omega) ?_);have e1:m.tdiv 1000000000=m / 1000000000:=Int.tdiv_eq_ediv_of_nonneg h2;have e2:m.tmod 1000000000=m%1000000000:=Int.tmod_eq_emod_of_nonneg h2;rw[e1,e2,aF (by omega) (by omega),bf (by omega) (by omega)];have p:0<=m%1000000000/\m%1000000000<1000000000:=by omega
  refine I _ ⟨ln.2 ⟨h1,fN.2 p⟩,by simp only;omega,?_,by simp;omega,fun N=>xb h1 p (by simp only at N;omega)⟩ (by simp;omega);simp only;rw[me,hZ,List.length_append,List.length_singleton,cE];have:m=m%1000000000+1000000000*(m / 1000000000):=by omega
  rw[<-z];grind
 ·have hm:m=0:=by simp at h;omega
  subst hm;exact aw.2 ⟨D rfl,by omega,C⟩
theorem xI{n:Nat}{v:Int}(p:1000<=n)(C:-9223372036854775808<=v)(D:v<=9223372036854775807):Ok (gD n v) fun z=>isI z.Negative z.Groups v:=by
 unfold gD;refine Ok.cd (fun h=>?_) (fun h=>?_)
 ·have j:v<0:=by simpa using h
  have e:aa .u64 (aa .u64 (Jy (0-Jy (v+1)))+1)=-v:=by
   rw[wrap64_in (n:=v+1) (by omega) (by omega),wrap64_in (by omega) (by omega),aF (n:=0-(v+1)) (by omega) (by omega),aF (by omega) (by omega)];omega
  rw[e];refine Ok.bd (lT p (by omega) (by omega)) ?_;rintro r ⟨h1,h2,q⟩;refine Ok.bd (dy p true h1.dig (by omega)) ?_;intro z m;rw[h2]at m;refine aw.2 ?_;simpa using m
 ·have j:0<=v:=by simpa using h
  rw[aF j (by omega)];refine Ok.bd (lT p (by omega) (by omega)) ?_;rintro r ⟨h1,h2,q⟩;refine Ok.bd (dy p false h1.dig (by omega)) ?_;intro z m;rw[h2]at m;exact aw.2 m
theorem mh{n:Nat}{x:ah}{v:Int}(C:1000<=n)(D:x.Groups.length<=900)(h:isI x.Negative x.Groups v):cL n x=some true:=by
 obtain⟨h1,h2,E⟩:=h;apply Ok.eq;unfold cL;refine Ok.bd (R:=fun o=>match o with|.inl _=>True|.inr _=>False) ?_ ?_
 ·refine x9 (len:=x.Groups.length) (fun k=>True) (by omega) (by omega) trivial ?_ ?_
  ·intro again k p _ q;refine Ok.cd (fun _=>?_) (fun h=>?_)
   ·refine Ok.gd (by rw[aR];simpa using p) ?_;rw[dY];have:=cB h1.dig k;refine Ok.cd (fun h=>?_) (fun h=>q trivial);have:=dcT h;omega
   ·simp at h;omega
  ·intro again _;refine Ok.cd (fun h=>?_) (fun h=>aw.2 trivial);simp at h
 ·rintro(_|r) h
  ·refine Ok.cd (fun h=>?_) (fun h=>?_)
   ·have m:x.Groups=[]:=by simpa using h
    refine aw.2 ?_;cases z:x.Negative with|false=>rfl|true=>exact absurd m (h2 z)
   ·have m:x.Groups≠[]:=by simpa using h
    have j:0<x.Groups.length:=List.length_pos_iff.2 m;rw[lY j (by omega)];refine Ok.gd (by rw[aR];simp;omega) (aw.2 ?_);rw[dY];simpa using sg h1 m
  ·exact h.elim
theorem kH{n:Nat}{x:ah}{v:Int}(j:1000<=n)(m:x.Groups.length<=900)(h:isI x.Negative x.Groups v):bg n x=some x:=by
 unfold bg;rw[mh j m h];show gdO _ (gdO _ _)=_;have e1:decide ((0+x.Groups.length)*4<=140737488355328)=true:=by simp;omega
 have e2:decide (0+x.Groups.length<=4611686018427387904)=true:=by simp;omega
 rw[e1,e2];rfl
theorem kR{n:Nat}{x:ah}{v:Int}(j:1000<=n)(m:x.Groups.length<=900)(h:isI x.Negative x.Groups v):cA n x=some (sgn v):=by
 unfold cA;rw[kH j m h,CO h];show cdO _ _ _=_;by_cases hx:x.Groups=[]
 ·rw[hx];rfl
 ·have e:(((x.Groups.length:Int):Int)==0)=false:=by simp[hx]
  rw[e,if_neg hx];cases x.Negative<;>rfl
theorem oE{n:Nat}{x:ah}{v:Int}(j:1000<=n)(m:x.Groups.length<=900)(h:isI x.Negative x.Groups v):Ok (eV n x) fun z=>isI z.Negative z.Groups (-v):=by
 unfold eV;refine Ok.bde (kH j m h) ?_;refine Ok.bd (dy j _ h.1.dig m) fun z p=>aw.2 ?_
 have:-v=if (!x.Negative)=true then-vl x.Groups else vl x.Groups:=by rw[h.2.2];cases x.Negative<;>simp
 rw[this];exact p
theorem ns{n:Nat}{l:List Int}{k:Nat}(h:Dig l):aZ n l (k:Int)=some (l.getD k 0):=by
 unfold aZ;have hd:=cB h k;by_cases h:k<l.length
 ·have e:decide ((k:Int)<(l.length:Int))=true:=by simp;omega
  rw[e,aR,dY];have e:decide (k<l.length)=true:=by simpa using h
  rw[e,aF (by omega) (by omega)];rfl
 ·have e:decide ((k:Int)<(l.length:Int))=false:=by simp;omega
  rw[e,uI (by omega)];rfl
end Go.L.R


set_option linter.all false
namespace Go.L.R
open Go Go.Eng Go.L
theorem td{m:Int}(h:0<=m):m.tdiv 1000000000=m / 1000000000/\m.tmod 1000000000=m%1000000000:=⟨Int.tdiv_eq_ediv_of_nonneg h,Int.tmod_eq_emod_of_nonneg h⟩
theorem xc{n:Nat}{a b:List Int}(O:1000<=n)(ha:Dig a)(hb:Dig b)(T:a.length<=400)(lb:b.length<=400):Ok (gJ n a b) fun r=>Can r/\vl r=vl a+vl b:=by
 unfold gJ;obtain⟨M,h1,h2,h3,h4⟩:∃M:Nat,a.length<=M/\b.length<=M/\M<=400/\(M=a.length\/M=b.length):=by
  by_cases h:a.length<=b.length
  ·exact⟨b.length,h,by omega,lb,.inr rfl⟩
  ·exact⟨a.length,by omega,by omega,T,.inl rfl⟩
 refine Ok.bd (R:=fun r=>Dig r.1/\r.1.length=M/\(r.2=0\/r.2=1)/\vl r.1+pB M*r.2=vl a+vl b) ?_ ?_
 ·refine dD (fun x:List Int×Int×Int=>∃k:Nat,x.2.2=(k:Int)/\k<=M/\x.1.length=k/\Dig x.1/\(x.2.1=0\/x.2.1=1)/\vl x.1+pB k*x.2.1=vk a k+vk b k) (fun x=>M-x.2.2.toNat) ?_ n _
   ⟨0,rfl,by omega,rfl,og,.inl rfl,by simp[jn,vl]⟩ (by simp;omega)
  rintro again ⟨out,c,x⟩ ⟨k,hx,D,m,p,E,I⟩ U;simp only at hx m p E I;subst hx;dsimp only;rw[ns ha,ns hb];have da:=cB ha k;have db:=cB hb k;have step:k<M->Ok (bdO (some (a.getD k 0)) fun q=>bdO (some (b.getD k 0)) fun C=>gdO (decide ((out.length+1)*4<=140737488355328)) (gdO (decide (out.length+1<=4611686018427387904)) (again (out++[aa .u32 ((aa .u64 ((aa .u64 (q+C))+c)).tmod 1000000000)],aa .u64 ((aa .u64 ((aa .u64 (q+C))+c)).tdiv 1000000000),Jy ((k:Int)+1)))))
    fun r=>Dig r.1/\r.1.length=M/\(r.2=0\/r.2=1)/\vl r.1+pB M*r.2=vl a+vl b:=by
   intro hk;show Ok (gdO _ _) _;refine Ok.gd (by simp;omega) (Ok.gd (by simp;omega) ?_);generalize hs:aa .u64 (aa .u64 (a.getD k 0+b.getD k 0)+c)=s;have Y:s=a.getD k 0+b.getD k 0+c:=by rw[<-hs,aF (n:=a.getD k 0+b.getD k 0) (by omega) (by omega),aF (by omega) (by omega)]
   rw[(td (by omega)).1,(td (by omega)).2,aF (by omega) (by omega),bf (by omega) (by omega),jR (by omega)];refine U _ ⟨k+1,rfl,by omega,by simp;omega,ln.2 ⟨p,fN.2 (by omega)⟩,by simp only;omega,?_⟩ (by simp;omega);simp only;rw[me,hZ,m,fC,fC,cE];have:a.getD k 0+b.getD k 0+c=s%1000000000+1000000000*(s / 1000000000):=by omega
   grind
  refine Ok.cd (fun h=>?_) (fun h=>Ok.cd (fun J=>?_) (fun J=>?_))
  ·exact step (by have:=dcT h;omega)
  ·exact step (by have:=dcT J;omega)
  ·have:=dcF h;have:=dcF J;obtain rfl:k=M:=by omega
   rw[gp (l:=a) (by omega),gp (l:=b) (by omega)]at I;exact aw.2 ⟨p,m,E,I⟩
 ·rintro⟨out,c⟩ ⟨D,m,p,E⟩;simp only at D m p E;dsimp only;refine Ok.gd (by simp;omega) (Ok.gd (by simp;omega) ?_);rw[bf (by omega) (by omega)];refine Ok.bd (dy O false (ln.2 ⟨D,fN.2 (by omega)⟩) (by simp;omega)) fun z N=>aw.2 ⟨N.1,?_⟩
  have:=N.2.2;have j:=gT N;have a0:=ba D;have a1:=gF M;rw[me,hZ,m]at j;have:0<=vl a+vl b:=by have:=ba ha;have:=ba hb;omega
  simp only[Bool.false_eq_true,if_false]at j;omega
theorem nG{n:Nat}{a b:List Int}(E:1000<=n)(ha:Dig a)(hb:Dig b)(M:a.length<=400)(lb:b.length<=a.length)(hle:vl b<=vl a):Ok (cg n a b) fun r=>Can r/\vl r=vl a-vl b:=by
 unfold cg;refine Ok.bd (R:=fun r=>Dig r/\r.length=a.length/\vl r=vl a-vl b) ?_ ?_
 ·refine dD (fun x:List Int×Int×Int=>∃k:Nat,x.2.2=(k:Int)/\k<=a.length/\x.1.length=k/\Dig x.1/\(x.2.1=0\/x.2.1=1)/\vl x.1-pB k*x.2.1=vk a k-vk b k) (fun x=>a.length-x.2.2.toNat) ?_ n _
   ⟨0,rfl,by omega,rfl,og,.inl rfl,by simp[jn,vl]⟩ (by simp;omega)
  rintro again ⟨out,c,x⟩ ⟨k,hx,C,m,p,j,q⟩ I;simp only at hx m p j q;subst hx;dsimp only;rw[ns ha,ns hb];have N:=cB ha k;have O:=cB hb k;refine Ok.cd (fun h=>?_) (fun h=>?_)
  ·have T:k<a.length:=by have:=dcT h;omega
   show Ok (gdO _ _) _;refine Ok.gd (by simp;omega) (Ok.gd (by simp;omega) ?_);generalize hs:aa .u64 (aa .u64 (aa .u64 (1000000000+a.getD k 0)-b.getD k 0)-c)=s;have J:s=1000000000+a.getD k 0-b.getD k 0-c:=by rw[<-hs,aF (n:=1000000000+a.getD k 0) (by omega) (by omega),aF (n:=1000000000+a.getD k 0-b.getD k 0) (by omega) (by omega),aF (by omega) (by omega)]
   rw[(td (by omega)).1,(td (by omega)).2,aF (n:=s / 1000000000) (by omega) (by omega),aF (by omega) (by omega),bf (by omega) (by omega),jR (by omega)];refine I _ ⟨k+1,rfl,by omega,by simp;omega,ln.2 ⟨p,fN.2 (by omega)⟩,by simp only;omega,?_⟩ (by simp;omega);simp only;rw[me,hZ,m,fC,fC,cE];have:a.getD k 0-b.getD k 0-c=s%1000000000+1000000000*(s / 1000000000)-1000000000:=by omega
   grind
  ·have:=dcF h;obtain rfl:k=a.length:=by omega
   rw[gp (l:=a) (by omega),gp (l:=b) (by omega)]at q;refine aw.2 ⟨p,m,?_⟩;have:=gP p;rw[m]at this;rcases j with j|j
   ·rw[j]at q;omega
   ·rw[j]at q;omega
 ·rintro r ⟨C,m,p⟩;refine Ok.bd (dy E false C (by omega)) fun z D=>aw.2 ⟨D.1,?_⟩
  have:=gT D;simp only[Bool.false_eq_true,if_false]at this;omega
theorem z7{n:Nat}{a b:List Int}(D:1000<=n)(ha:Can a)(hb:Can b)(E:a.length<=400)(lb:b.length<=400):dc n a b=some (sgn (vl a-vl b)):=by
 apply Ok.eq;unfold dc;refine Ok.cd (fun h=>Ok.cd (fun m=>?_) (fun m=>?_)) (fun h=>?_)
 ·have:=dcT m;have:=ck ha.dig hb (by omega);exact aw.2 (lB (by omega)).symm
 ·have h1:=dcF m;have h2:a.length≠b.length:=by intro e;rw[e]at h;simp at h
  have:=ck hb.dig ha (by omega);exact aw.2 (qC (by omega)).symm
 ·have I:a.length=b.length:=by simp at h;omega
  refine Ok.bd (R:=fun o=>match o with|.inl _=>sgn (vl a-vl b)=0|.inr r=>r=sgn (vl a-vl b)) ?_ ?_
  ·refine dD (fun i:Int=>∃k:Nat,i=(k:Int)-1/\k<=a.length/\vl a-vl b=vk a k-vk b k) (fun i=>(i+1).toNat) ?_ n _ ⟨a.length,by rw[wrap64_in (by omega) (by omega)],Nat.le_refl _,by rw[gp (by omega),gp (by omega)]⟩ (by rw[wrap64_in (by omega) (by omega)];omega);rintro again _ ⟨k,rfl,h1,h2⟩ q;refine Ok.cd (fun h=>?_) (fun h=>?_)
   ·have J:=dcT h;obtain⟨j,rfl⟩:∃j,k=j+1:=⟨k-1,by omega⟩;have e:(((j+1:Nat):Int)-1)=(j:Int):=by omega
    rw[e];refine Ok.gd (by rw[aR];simp;omega) (Ok.gd (by rw[aR];simp;omega) ?_);rw[dY,dY];have M:=va ha.dig j;have N:=va hb.dig j;have z:=jB ha.dig j;have C:=jB hb.dig j;rw[fC,fC]at h2;have hp:=gF j;refine Ok.cd (fun h=>?_) (fun h=>Ok.cd (fun m=>?_) (fun m=>?_))
    ·have p:=dcT h;have:pB j*1<=pB j*(b.getD j 0-a.getD j 0):=mlT (by omega) (by omega);rw[Int.mul_sub]at this;exact aw.2 (lB (by omega)).symm
    ·have p:=dcT m;have:pB j*1<=pB j*(a.getD j 0-b.getD j 0):=mlT (by omega) (by omega);rw[Int.mul_sub]at this;exact aw.2 (qC (by omega)).symm
    ·have g1:=dcF h;have O:=dcF m;have e:a.getD j 0=b.getD j 0:=by omega
     rw[e]at h2;refine q _ ⟨j,by rw[wrap64_in (by omega) (by omega)],by omega,by omega⟩ (by rw[wrap64_in (by omega) (by omega)];omega)
   ·have:=dcF h;obtain rfl:k=0:=by omega
    rw[jn,jn]at h2;refine aw.2 ?_;show sgn _=0;rw[h2];rfl
  ·rintro(_|r) h
   ·exact aw.2 h.symm
   ·exact aw.2 h
theorem Am{n:Nat}{x y:ah}{v w:Int}(m:1000<=n)(hx:isI x.Negative x.Groups v)(j:isI y.Negative y.Groups w)(D:x.Groups.length<=400)(E:y.Groups.length<=400):Ok (fR n x y) fun z=>isI z.Negative z.Groups (v+w):=by
 unfold fR;refine Ok.bde (kH m (by omega) hx) (Ok.bde (kH m (by omega) j) ?_);obtain⟨p,a⟩:=x;obtain⟨q,b⟩:=y;simp only at hx j D E;dsimp only;have N:∀{r:List Int},Can r->vl r<=vl a+vl b->r.length<=900:=by
  intro r O T;have:=lf O (k:=401) (by
   have U:=gP hx.1.dig;have Y:=gP j.1.dig;have p1:=iq D;have p2:=iq E;have p3:pB 401=1000000000*pB 400:=cE 400;have:=gF 400;omega)
  omega
 have pa:=ba hx.1.dig;have pb:=ba j.1.dig;refine Ok.cd (fun h=>?_) (fun h=>?_)
 ·have C:p=q:=by simpa using h
  subst C;refine Ok.bd (xc m hx.1.dig j.1.dig D E) ?_;rintro r ⟨h1,h2⟩;refine Ok.bd (dy m _ h1.dig (N h1 (by omega))) fun z I=>aw.2 ?_
  have:v+w=if p=true then-vl r else vl r:=by rw[hx.2.2,j.2.2,h2];cases p<;>simp<;>omega
  rw[this];exact I
 ·rw[z7 m hx.1 j.1 D E];show Ok (cdO _ _ _) _;have C:p=!q:=by cases p<;>cases q<;>simp at h ⊢
  refine Ok.cd (fun h=>?_) (fun h=>?_)
  ·have hle:vl b<=vl a:=by
    by_cases J:vl a-vl b<0
    ·rw[lB J]at h;simp at h
    ·omega
   have hlen:b.length<=a.length:=by
    by_cases J:a.length<b.length
    ·have:=ck hx.1.dig j.1 J;omega
    ·omega
   refine Ok.bd (nG m hx.1.dig j.1.dig D hlen hle) ?_;rintro r ⟨h1,h2⟩;refine Ok.bd (dy m _ h1.dig (N h1 (by omega))) fun z I=>aw.2 ?_
   have:v+w=if p=true then-vl r else vl r:=by rw[hx.2.2,j.2.2,h2,C];cases q<;>simp<;>omega
   rw[this];exact I
  ·have hle:vl a<vl b:=by
    rcases cR (vl a-vl b)with⟨g1,M⟩|⟨g1,M⟩|⟨g1,M⟩
    ·omega
    ·rw[M]at h;simp at h
    ·rw[M]at h;simp at h
   have hlen:a.length<=b.length:=by
    by_cases J:b.length<a.length
    ·have:=ck j.1.dig hx.1 J;omega
    ·omega
   refine Ok.bd (nG m j.1.dig hx.1.dig E hlen (by omega)) ?_;rintro r ⟨h1,h2⟩;refine Ok.bd (dy m _ h1.dig (N h1 (by omega))) fun z I=>aw.2 ?_
   have:v+w=if q=true then-vl r else vl r:=by rw[hx.2.2,j.2.2,h2,C];cases q<;>simp<;>omega
   rw[this];exact I
theorem En{n:Nat}{x y:ah}{v w:Int}(p:1000<=n)(hx:isI x.Negative x.Groups v)(j:isI y.Negative y.Groups w)(q:x.Groups.length<=400)(C:y.Groups.length<=400):Ok (cS n x y) fun z=>isI z.Negative z.Groups (v-w):=by
 unfold cS;refine Ok.bd (oE p (by omega) j) fun z m=>?_
 have D:z.Groups.length<=400:=lf m.1 (k:=400) (by
  have h1:=gT m;have h2:=gT j;have I:=gP j.1.dig;have:=iq C;omega)
 refine Ok.bd (Am p hx m q D) fun r E=>aw.2 ?_
 rw[(by omega:v-w=v+-w)];exact E
theorem mA{n:Nat}{x y:ah}{v w:Int}(Y:1000<=n)(hx:isI x.Negative x.Groups v)(D:isI y.Negative y.Groups w)(lx:x.Groups.length<=400)(ly:y.Groups.length<=400):Ok (bB n x y) fun z=>isI z.Negative z.Groups (v*w):=by
 unfold bB;refine Ok.bde (kH Y (by omega) hx) (Ok.bde (kH Y (by omega) D) ?_);obtain⟨p,a⟩:=x;obtain⟨q,b⟩:=y;simp only at hx D lx ly;dsimp only;have ha:=hx.1.dig;have hb:=D.1.dig;rw[nk (by omega) (by omega)];refine Ok.gd (by simp;try omega) (Ok.gd (by simp;try omega) (Ok.gd (by simp;try omega) ?_));refine Ok.bd (R:=fun r=>Dig r/\r.length<=900/\vl r=vl a*vl b) ?_ (fun r h=>Ok.bd (dy Y _ h.1 h.2.1) fun z hz=>aw.2 ?_)
 ·refine dD (fun x:List Int×Int=>∃i:Nat,x.2=(i:Int)/\i<=a.length/\x.1.length=a.length+b.length/\Dig x.1/\(∀j,i+b.length<=j->x.1.getD j 0=0)/\vl x.1=vk a i*vl b) (fun x=>a.length-x.2.toNat) ?_ n _
   ⟨0,rfl,by omega,(by simp;omega),qE _,fun j _=>wc,by simp[jn,vU]⟩ (by simp;omega)
  rintro again ⟨out,x⟩ ⟨i,hx,h4,h5,h6,h7,T⟩ ih;simp only at hx h5 h6 h7 T;subst hx;dsimp only;have da:=cB ha i;refine Ok.cd (fun h=>?_) (fun h=>?_)
  ·have hi:i<a.length:=by simp at h;omega
   refine Ok.bd (R:=fun r=>r.1.length=a.length+b.length/\Dig r.1/\(0<=r.2/\r.2<1000000000)/\(∀j,i+b.length<=j->r.1.getD j 0=0)/\vl r.1+pB (i+b.length)*r.2=vk a i*vl b+pB i*a.getD i 0*vl b) ?_ ?_
   ·refine dD (fun y:List Int×Int×Int=>∃j:Nat,y.2.2=(j:Int)/\j<=b.length/\y.1.length=a.length+b.length/\Dig y.1/\(0<=y.2.1/\y.2.1<1000000000)/\(∀m,i+b.length<=m->y.1.getD m 0=0)/\vl y.1+pB (i+j)*y.2.1=vk a i*vl b+pB i*a.getD i 0*vk b j) (fun y=>b.length-y.2.2.toNat) ?_ n _
     ⟨0,rfl,by omega,h5,h6,by simp,h7,by simp[jn,T]⟩ (by simp;omega)
    rintro U ⟨C,c,y⟩ ⟨j,D,k4,J,E,M,I,N⟩ a0;simp only at D J E M I N;subst D;dsimp only;have db:=cB hb j;refine Ok.cd (fun h=>?_) (fun h=>?_)
    ·have hj:j<b.length:=by simp at h;omega
     rw[nk (by omega) (by omega)];refine Ok.gd (by rw[aR];simp;omega) (Ok.gd (by rw[aR];simpa using hi) (Ok.gd (by rw[aR];simpa using hj) ?_));rw[dY,dY,dY];have O:=cB E (i+j);obtain⟨e1,e2,e3⟩:=yc da db O M;rw[e1];generalize hs:C.getD (i+j) 0+a.getD i 0*b.getD j 0+c=s at e1 e2 e3;rw[(td e2).1,(td e2).2,bf (by omega) (by omega),aF (by omega) (by omega),jR (by omega),Int.toNat_natCast];refine a0 _ ⟨j+1,rfl,by omega,by simpa using J,jS E (by omega),by simp only;omega,?_,?_⟩ (by simp;omega)
     ·intro m hm;simp only;rw[iY (by omega)];exact I m hm
     ·simp only;rw[mY (by omega),fC,<-Nat.add_assoc,cE,mr];rw[mr]at N;have:s=s%1000000000+1000000000*(s / 1000000000):=by omega
      grind
    ·have hj:j=b.length:=by simp at h;omega
     subst hj;rw[gp (l:=b) (by omega)]at N;exact aw.2 ⟨J,E,M,I,N⟩
   ·rintro⟨C,c⟩ ⟨J,E,M,I,N⟩;simp only at J E M I N;dsimp only;rw[nk (by omega) (by omega)];refine Ok.gd (by rw[aR];simp;omega) ?_;rw[bf (by omega) (by omega),jR (by omega),Int.toNat_natCast];refine ih _ ⟨i+1,rfl,by omega,by simpa using J,jS E M,?_,?_⟩ (by simp;omega)
    ·intro m hm;simp only;rw[iY (by omega)];exact I m (by omega)
    ·simp only;rw[mY (by omega),fC,I _ (by omega)];grind
  ·have hi:i=a.length:=by simp at h;omega
   subst hi;rw[gp (l:=a) (by omega)]at T;exact aw.2 ⟨h6,by omega,T⟩
 ·have:v*w=if (p !=q)=true then-vl r else vl r:=by
   rw[hx.2.2,D.2.2,h.2.2];cases p<;>cases q<;>simp<;>grind
  rw[this];exact hz
end Go.L.R

