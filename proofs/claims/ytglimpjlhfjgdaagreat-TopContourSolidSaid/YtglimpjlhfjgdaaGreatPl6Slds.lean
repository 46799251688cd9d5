import Derived.Test.YtglimpjlhfjgdaaGreatPl2Slds
set_option linter.all false
namespace Go.L
open Go Go.Eng
def vl:List Int->Int
 |[]=>0
 |d::l=>d+1000000000*vl l
def pB:Nat->Int
 |0=>1
 |k+1=>1000000000*pB k
def Dig(l:List Int):Prop:=∀d,d∈l->0<=d/\d<1000000000
def Can:List Int->Prop
 |[]=>True
 |d::l=>(0<=d/\d<1000000000)/\(l=[]->d≠0)/\Can l
theorem jo:∀k,1<=pB k
 |0=>by decide
 |k+1=>by have:=jo k;unfold pB;omega
theorem dN(k:Nat):pB (k+1)=1000000000*pB k:=rfl
theorem lN:∀j k,pB (j+k)=pB j*pB k
 |0,k=>by rw[Nat.zero_add];show _=1*_;omega
 |j+1,k=>by rw[Nat.add_right_comm,dN,lN j k,dN];grind
theorem jy{j k:Nat}(h:j<=k):pB j<=pB k:=by
 induction k with
 | zero => obtain rfl:j=0:=by omega
           exact Int.le_refl _
 |succ k m=>
  by_cases p:j=k+1
  ·rw[p];exact Int.le_refl _
  ·have:=m (by omega);have:=jo k;rw[dN];omega
theorem tK:Dig []:=fun _ h=>by cases h
theorem ig{d:Int}{l:List Int}:Dig (d::l)↔(0<=d/\d<1000000000)/\Dig l:=
 ⟨fun h=>⟨h d (by simp),fun x j=>h x (by simp[j])⟩,fun h x j=>by rcases List.mem_cons.1 j with rfl|j;exact h.1;exact h.2 x j⟩
theorem tL{a b:List Int}:Dig (a++b)↔Dig a/\Dig b:=
 ⟨fun h=>⟨fun x j=>h x (by simp[j]),fun x j=>h x (by simp[j])⟩,fun h x j=>by rcases List.mem_append.1 j with j|j;exact h.1 x j;exact h.2 x j⟩
theorem kV{d:Int}:Dig [d]↔0<=d/\d<1000000000:=by rw[ig];exact⟨fun h=>h.1,fun h=>⟨h,tK⟩⟩
theorem tb{l:List Int}(h:Dig l)(k:Nat):Dig (l.take k):=fun x j=>h x (List.mem_of_mem_take j)
theorem iU{l:List Int}(h:Dig l)(k:Nat):Dig (l.drop k):=fun x j=>h x (List.mem_of_mem_drop j)
theorem vN(k:Nat):Dig (List.replicate k 0):=fun x j=>by rw[List.eq_of_mem_replicate j];omega
theorem fj{l:List Int}(h:Dig l)(k:Nat):0<=l.getD k 0/\l.getD k 0<1000000000:=by
 by_cases hk:k<l.length
 ·have:l.getD k 0=l[k]:=by simp[List.getD,hk]
  rw[this];exact h _ (List.getElem_mem hk)
 ·have:l.getD k 0=0:=by simp[List.getD,List.getElem?_eq_none (by omega:l.length<=k)]
  rw[this];omega
theorem kR{l:List Int}(h:Dig l){k:Nat}{x:Int}(m:0<=x/\x<1000000000):Dig (l.set k x):=fun y j=>by
 rcases List.mem_or_eq_of_mem_set j with j|rfl
 ·exact h y j
 ·exact m
theorem Can.dig:∀{l:List Int},Can l->Dig l
 |[],_=>tK
 |d::l,h=>ig.2 ⟨h.1,Can.dig h.2.2⟩
theorem pW:∀a b:List Int,vl (a++b)=vl a+pB a.length*vl b
 |[],b=>by show vl b=0+1*vl b;omega
 |d::a,b=>by
  rw[List.cons_append,List.length_cons,dN];show d+1000000000*vl (a++b)=d+1000000000*vl a+_;rw[pW a b];grind
theorem lK(d:Int):vl [d]=d:=by show d+1000000000*0=d;omega
theorem B1:∀k:Nat,vl (List.replicate k 0)=0
 |0=>rfl
 |k+1=>by rw[List.replicate_succ];show 0+1000000000*vl (List.replicate k 0)=0;rw[B1 k];rfl
theorem bM:∀{l:List Int},Dig l->0<=vl l
 |[],_=>Int.le_refl _
 |d::l,h=>by have j:=ig.1 h;have:=bM j.2;unfold vl;omega
theorem jn:∀{l:List Int},Dig l->vl l<pB l.length
 |[],_=>by decide
 |d::l,h=>by have j:=ig.1 h;have:=jn j.2;rw[List.length_cons,dN];unfold vl;omega
def vk(l:List Int)(k:Nat):Int:=vl (l.take k)
theorem qN(l:List Int):vk l 0=0:=by simp[vk,vl]
theorem jZ{l:List Int}{k:Nat}(h:l.length<=k):vk l k=vl l:=by unfold vk;rw[List.take_of_length_le h]
theorem kW(l:List Int)(k:Nat):vk l (k+1)=vk l k+pB k*l.getD k 0:=by
 by_cases hk:k<l.length
 ·unfold vk;rw[List.take_succ_eq_append_getElem hk,pW,lK,List.length_take,Nat.min_eq_left (by omega)];simp[List.getD,hk]
 ·rw[jZ (by omega),jZ (by omega)];have:l.getD k 0=0:=by simp[List.getD,List.getElem?_eq_none (by omega:l.length<=k)]
  rw[this];omega
theorem ou{l:List Int}(h:Dig l)(k:Nat):0<=vk l k:=bM (tb h k)
theorem Dq{l:List Int}(h:Dig l)(k:Nat):vk l k<pB k:=by
 have:=jn (tb h k);have h2:=jy (by rw[List.length_take];omega:(l.take k).length<=k);unfold vk;omega
theorem IP{l:List Int}{k:Nat}{x:Int}:vk (l.set k x) k=vk l k:=by unfold vk;rw[List.take_set_of_le (by omega)]
theorem Fj{l:List Int}{k:Nat}{x:Int}(h:k<l.length):(l.set k x).getD k 0=x:=by simp[List.getD,h]
theorem kq{l:List Int}{j k:Nat}{x:Int}(h:k≠j):(l.set k x).getD j 0=l.getD j 0:=by simp[List.getD,h]
theorem Dz{l:List Int}{k:Nat}{x:Int}(h:k<l.length):vk (l.set k x) (k+1)=vk l k+pB k*x:=by rw[kW,IP,Fj h]
theorem GM(l:List Int)(k:Nat)(h:k<=l.length):vl l=vk l k+pB k*vl (l.drop k):=by
 have:=pW (l.take k) (l.drop k);rw[List.take_append_drop,List.length_take,Nat.min_eq_left h]at this;exact this
theorem pn:∀{l:List Int} {k:Nat} {x:Int},k<l.length->vl (l.set k x)=vl l+pB k*(x-l.getD k 0)
 |[],k,x,h=>by simp at h
 |d::l,0,x,_=>by
  show x+1000000000*vl l=d+1000000000*vl l+1*(x-d);omega
 |d::l,k+1,x,h=>by
  have j:=pn (l:=l) (k:=k) (x:=x) (by simpa using h);show d+1000000000*vl (l.set k x)=d+1000000000*vl l+1000000000*pB k*(x-l.getD k 0);rw[j];grind
theorem Ao:∀{l:List Int},Can l->vl l=0->l=[]
 |[],_,_=>rfl
 |d::l,h,j=>by
  have q:=bM h.2.2.dig;have m:d+1000000000*vl l=0:=j;have h1:=h.1;have p:l=[]:=Ao h.2.2 (by omega);have:=h.2.1 p;exfalso;omega
theorem qT{l:List Int}(h:Can l)(j:l≠[]):0<vl l:=by
 have p:=bM h.dig;by_cases m:vl l=0
 ·exact absurd (Ao h m) j
 ·omega
theorem BJ:∀{l:List Int},Can l->l≠[]->pB (l.length-1)<=vl l
 |[],_,h=>absurd rfl h
 |[d],h,_=>by
  have:=h.1;have:=h.2.1 rfl;show 1<=d+1000000000*0;omega
 |d::e::l,h,_=>by
  have j:=BJ h.2.2 (by simp);have:=h.1;show 1000000000*pB ((e::l).length-1)<=d+1000000000*vl (e::l);omega
theorem pt{l:List Int}(h:Can l){k:Nat}(hk:vl l<pB k):l.length<=k:=by
 by_cases j:l=[]
 ·subst j;simp
 ·have h1:=BJ h j;by_cases m:k<l.length
  ·have:=jy (by omega:k<=l.length-1);omega
  ·omega
theorem zq:∀{a:List Int} {d:Int},Dig a->(0<=d/\d<1000000000)->d≠0->Can (a++[d])
 |[],d,_,j,m=>⟨j,fun _=>m,trivial⟩
 |x::a,d,p,j,m=>⟨(ig.1 p).1,fun h=>by simp at h,zq (ig.1 p).2 j m⟩
theorem FM{l:List Int}(h:Dig l)(j:l=[]\/l.getD (l.length-1) 0≠0):Can l:=by
 rcases List.eq_nil_or_concat l with rfl|⟨a,d,rfl⟩
 ·trivial
 ·rw[List.concat_eq_append]at*;have m:=tL.1 h;refine zq m.1 (kV.1 m.2) ?_;rcases j with j|j
  ·simp at j
  ·simpa using j
theorem xf:∀{l:List Int},Can l->l≠[]->l.getD (l.length-1) 0≠0
 |[],_,h=>absurd rfl h
 |[d],h,_=>h.2.1 rfl
 |d::e::l,h,_=>by
  have j:=xf h.2.2 (by simp);simpa using j
theorem BG{l:List Int}{k:Nat}(hk:k<=l.length)(p:∀j,k<=j->l.getD j 0=0):vl (l.take k)=vl l:=by
 have:∀m,vk l (k+m)=vk l k:=by
  intro m;induction m with
  |zero=>rfl
  |succ m q=>rw[<-Nat.add_assoc,kW,q,p _ (by omega)];omega
 have h2:=this (l.length-k);rw[jZ (by omega)]at h2;exact h2.symm
theorem vQ{n:Int}(h:0<n):sgn n=1:=by unfold sgn;rw[if_neg (by omega),if_pos h]
theorem po{n:Int}(h:n<0):sgn n=-1:=by unfold sgn;rw[if_pos h]
theorem Dp:∀{a b:List Int},Dig a->Dig b->a.length=b.length->pP a b=sgn (vl a-vl b)
 |[],[],_,_,_=>rfl
 |[],_::_,_,_,h=>by simp at h
 |_::_,[],_,_,h=>by simp at h
 |x::a,y::b,z,C,h=>by
  have m:=ig.1 z;have p:=ig.1 C;have D:=Dp m.2 p.2 (by simpa using h);show(if pP a b≠0 then pP a b else nC x y)=sgn (x+1000000000*vl a-(y+1000000000*vl b));rw[D];rcases bZ (vl a-vl b)with⟨h1,h2⟩|⟨h1,h2⟩|⟨h1,h2⟩
  ·rw[if_pos (by omega),h2,po (by omega)]
  ·rw[if_neg (by omega),(by omega:x+1000000000*vl a-(y+1000000000*vl b)=x-y)];unfold nC;rcases bZ (x-y)with⟨q,j⟩|⟨q,j⟩|⟨q,j⟩
   ·rw[j,if_pos (by omega)]
   ·rw[j,if_neg (by omega),if_neg (by omega)]
   ·rw[j,if_neg (by omega),if_pos (by omega)]
  ·rw[if_pos (by omega),h2,vQ (by omega)]
theorem fF{a b:List Int}(j:Dig a)(m:Can b)(h:a.length<b.length):vl a<vl b:=by
 have h1:=jn j;have h2:=BJ m (by intro e;subst e;simp at h);have p:=jy (by omega:a.length<=b.length-1);omega
def isI(neg:Bool)(g:List Int)(v:Int):Prop:=Can g/\(neg=true->g≠[])/\v=(if neg then-vl g else vl g)
theorem lY{p:Bool}{g:List Int}{v:Int}(a:isI p g v):vl g=v.natAbs:=by
 obtain⟨j,a2,a3⟩:=a;have:=bM j.dig;cases p<;>simp at a3<;>omega
theorem kK{p:Bool}{g:List Int}{v:Int}(a:isI p g v){k:Nat}(h:-pB k<v)(h2:v<pB k):g.length<=k:=
 pt a.1 (by rw[lY a];omega)
theorem Gv{p:Bool}{g:List Int}{v:Int}(a:isI p g v):sgn v=(if g=[]then 0 else if p then-1 else 1):=by
 obtain⟨m,a2,a3⟩:=a;by_cases j:g=[]
 ·subst j;have hp:p=false:=by cases p with|false=>rfl|true=>exact absurd rfl (a2 rfl)
  subst hp;subst a3;rfl
 ·have:=qT m j;rw[if_neg j];cases p
  ·simp at a3;rw[a3,vQ this];rfl
  ·simp at a3;rw[a3,po (by omega)];rfl
theorem kD{p:Bool}{g:List Int}{v:Int}(a:isI p g v){k:Nat}(hk:g.length<=k):-pB k<v/\v<pB k:=by
 have h1:=lY a;have h2:=jn a.1.dig;have j:=jy hk;omega
theorem gU{p q r:Bool}{g h z:List Int}{v w:Int}(a:isI p g v)(b:isI q h w)(c:isI r z (v*w)){j k:Nat}(m:g.length<=j)(hk:h.length<=k):z.length<=j+k:=by
 refine pt c.1 ?_;have h1:=lY a;have h2:=lY b;have C:=lY c;have D:=jn a.1.dig;have a2:=jn b.1.dig;have a3:=bM a.1.dig;have a4:=bM b.1.dig;have E:=jy m;have b2:=jy hk;have I:=jo j;have e:vl z=vl g*vl h:=by rw[C,h1,h2,Int.natAbs_mul];push_cast;rfl
 rw[e,lN];have:vl g*vl h<=pB j*vl h:=mrT (by omega) a4;have:pB j*vl h<pB j*pB k:=Int.mul_lt_mul_of_pos_left (by omega) (by omega);omega
theorem vr{p q r:Bool}{g h z:List Int}{v w:Int}(a:isI p g v)(b:isI q h w)(c:isI r z (v+w)){k:Nat}(j:g.length<=k)(hk:h.length<=k):z.length<=k+1:=by
 have h1:=kD a j;have h2:=kD b hk;have:=jo k;exact kK c (by rw[dN];omega) (by rw[dN];omega)
theorem Aa{p q r:Bool}{g h z:List Int}{v w:Int}(a:isI p g v)(b:isI q h w)(c:isI r z (v-w)){k:Nat}(j:g.length<=k)(hk:h.length<=k):z.length<=k+1:=by
 have h1:=kD a j;have h2:=kD b hk;have:=jo k;exact kK c (by rw[dN];omega) (by rw[dN];omega)
theorem jF{p:Bool}{g:List Int}{v:Int}(a:isI p g v)(h:-9223372036854775808<=v)(h2:v<=9223372036854775807):g.length<=3:=by
 have:pB 3=1000000000000000000000000000:=rfl;exact kK a (by omega) (by omega)
end Go.L


set_option linter.all false
namespace Go.L
open Go Go.Eng
structure KN (P W V wl x0 x1 x2 vw v1 v2:Int):Prop where
 p:1<=P
 w:W=wl+P*(x0+1000000000*x1+1000000000000000000*x2)
 wl:0<=wl/\wl<P
 v:V=vw+P*(v2+1000000000*v1)
 vw:0<=vw/\vw<P
 v1:500000000<=v1/\v1<1000000000
 v2:0<=v2/\v2<1000000000
 x0:0<=x0/\x0<1000000000
 x1:0<=x1/\x1<1000000000
 x2:0<=x2/\x2<1000000000
 lt:W<1000000000*V
section
variable{P W V wl x0 x1 x2 vw v1 v2:Int}
theorem KN.top(k:KN P W V wl x0 x1 x2 vw v1 v2):x2<=v1:=by
 obtain⟨hp,hw,j,m,p,q,z,C,h1,h2,D⟩:=k;by_cases h:x2<=v1
 ·exact h
 ·exfalso;have e1:W=wl+P*x0+1000000000*(P*x1)+1000000000000000000*(P*x2):=by rw[hw];grind
  have e2:V=vw+P*v2+1000000000*(P*v1):=by rw[m];grind
  have f1:P*(v1+1)<=P*x2:=mlT (by omega) (by omega);have f2:P*v2<=P*999999999:=mlT (by omega) (by omega);have f3:0<=P*x0:=Int.mul_nonneg (by omega) C.1;have f4:0<=P*x1:=Int.mul_nonneg (by omega) h1.1;rw[Int.mul_add]at f1;omega
theorem KN.less(k:KN P W V wl x0 x1 x2 vw v1 v2){g:Int}(m:0<=g)(h:x0+1000000000*x1+1000000000000000000*x2<g*(v2+1000000000*v1)):W<g*V:=by
 obtain⟨hp,hw,p,q,j,z,C,E,h1,h2,D⟩:=k;have e:g*V=g*vw+P*(g*(v2+1000000000*v1)):=by rw[q];grind
 have f1:P*(x0+1000000000*x1+1000000000000000000*x2+1)<=P*(g*(v2+1000000000*v1)):=mlT (by omega) (by omega);have f2:0<=g*vw:=Int.mul_nonneg m j.1;rw[Int.mul_add]at f1;omega
theorem KN.more(k:KN P W V wl x0 x1 x2 vw v1 v2){g:Int}(E:1<=g)(j:g<=1000000000)(h:g*(v2+1000000000*v1)<=x0+1000000000*x1+1000000000000000000*x2):(g-1)*V<=W:=by
 obtain⟨hp,hw,m,p,q,z,C,I,h1,h2,D⟩:=k;have e:(g-1)*V=(g-1)*vw+P*((g-1)*(v2+1000000000*v1)):=by rw[p];grind
 have f2:(g-1)*vw<=(g-1)*P:=mlT (by omega) (by omega);have e2:(g-1)*P=P*(g-1):=Int.mul_comm _ _;have J:(g-1)*(v2+1000000000*v1)=g*(v2+1000000000*v1)-(v2+1000000000*v1):=by grind
 have f1:P*((g-1)*(v2+1000000000*v1)+(g-1))<=P*(x0+1000000000*x1+1000000000000000000*x2):=mlT (by omega) (by omega);rw[Int.mul_add]at f1;omega
theorem KN.first(k:KN P W V wl x0 x1 x2 vw v1 v2){g r:Int}(E:r<v1)(p:0<=g)(h:x1+1000000000*x2=g*v1+r):W<(g+1)*V:=by
 obtain⟨hp,hw,q,z,j,C,m,I,h1,h2,D⟩:=k;have e:(g+1)*V=(g+1)*vw+P*((g+1)*v2)+1000000000*(P*((g+1)*v1)):=by rw[z];grind
 have e2:(g+1)*v1=g*v1+v1:=by grind
 have f1:P*(x1+1000000000*x2+1)<=P*((g+1)*v1):=mlT (by omega) (by omega);have f2:0<=(g+1)*vw:=Int.mul_nonneg (by omega) j.1;have f3:0<=P*((g+1)*v2):=Int.mul_nonneg (by omega) (Int.mul_nonneg (by omega) m.1);have e1:W=wl+P*x0+1000000000*(P*(x1+1000000000*x2)):=by rw[hw];grind
 have f4:P*x0<=P*999999999:=mlT (by omega) (by omega);rw[Int.mul_add P _ 1]at f1;omega
end
theorem Ay{t s:Int}(q:1<=t)(j:t<1000000000)(hs:s=1000000000 / (t+1)):500000000<=t*s/\1<=s/\s<=500000000/\(t+1)*s<=1000000000:=by
 have hm:=Int.emod_add_mul_ediv 1000000000 (t+1);have m:=Int.emod_lt_of_pos 1000000000 (by omega:0<t+1);have p:=Int.emod_nonneg 1000000000 (by omega:t+1≠0);rw[<-hs]at hm;have e:(t+1)*s=t*s+s:=by grind
 have s1:1<=s:=by rw[hs];exact(Int.le_ediv_iff_mul_le (by omega)).2 (by omega)
 have s2:s<=500000000:=by
  have:2*s<=(t+1)*s:=mrT (by omega) (by omega);omega
 refine⟨?_,s1,s2,by omega⟩;have h1:0<=(t-1)*(s-1):=Int.mul_nonneg (by omega) (by omega);have h2:(t-1)*(s-1)=t*s-t-s+1:=by grind
 omega
theorem lp(l:List Int)(j:Nat):vl (l.drop j)=l.getD j 0+1000000000*vl (l.drop (j+1)):=by
 by_cases h:j<l.length
 ·rw[List.drop_eq_getElem_cons h];show l[j]+_=_;simp[List.getD,h]
 ·rw[List.drop_of_length_le (by omega),List.drop_of_length_le (by omega)];have:l.getD j 0=0:=by simp[List.getD,List.getElem?_eq_none (by omega:l.length<=j)]
  rw[this];rfl
theorem iQ(l:List Int)(k:Nat):vl l=vk l k+pB k*vl (l.drop k):=by
 by_cases h:k<=l.length
 ·exact GM l k h
 ·rw[jZ (by omega),List.drop_of_length_le (by omega)];show _=_+_*0;omega
theorem nD{l:List Int}(h:Dig l){k:Nat}(m:vl l<pB k):vl (l.drop k)=0:=by
 have h1:=iQ l k;have h2:=ou h k;have p:=bM (iU h k);have q:=jo k;by_cases j:vl (l.drop k)=0
 ·exact j
 ·have:pB k*1<=pB k*vl (l.drop k):=mlT (by omega) (by omega);omega
theorem ot(l:List Int)(j k:Nat):(l.drop j).getD k 0=l.getD (j+k) 0:=by simp[List.getD,List.getElem?_drop]
theorem Kn{X v:List Int}{n:Nat}(O:2<=n)(p:Dig X)(q:Dig v)(E:v.length=n)(j:500000000<=v.getD (n-1) 0)(C:vl X<1000000000*vl v):
  KN (pB (n-2)) (vl X) (vl v) (vk X (n-2)) (X.getD (n-2) 0) (X.getD (n-1) 0) (X.getD n 0) (vk v (n-2)) (v.getD (n-1) 0) (v.getD (n-2) 0):=by
 obtain⟨m,rfl⟩:∃m,n=m+2:=⟨n-2,by omega⟩;have e1:m+2-2=m:=by omega
 have e2:m+2-1=m+1:=by omega
 rw[e1,e2];have j:500000000<=v.getD (m+1) 0:=j;have z:=jn q;rw[E]at z;have D:vl X<pB (m+3):=by rw[dN];omega
 have I:=nD p D;have J:=iQ X m;have a2:=lp X m;have a3:vl (X.drop (m+1))=X.getD (m+1) 0+1000000000*vl (X.drop (m+2)):=lp X (m+1);have a4:vl (X.drop (m+2))=X.getD (m+2) 0+1000000000*vl (X.drop (m+3)):=lp X (m+2);rw[I]at a4;have M:=iQ v m;have b2:=lp v m;have N:=lp v (m+1);rw[List.drop_of_length_le (by omega:v.length<=m+1+1)]at N;have T:vl ([]:List Int)=0:=rfl;have c0:=fj p m;have c1:=fj p (m+1);have c2:=fj p (m+2);have d1:=fj q (m+1);have d2:=fj q m;refine⟨jo m,?_,⟨ou p m,Dq p m⟩,?_,⟨ou q m,Dq q m⟩,⟨j,d1.2⟩,d2,c0,c1,c2,C⟩
 ·have:vl (X.drop m)=X.getD m 0+1000000000*X.getD (m+1) 0+1000000000000000000*X.getD (m+2) 0:=by omega
  rw[<-this];exact J
 ·have:vl (v.drop m)=v.getD m 0+1000000000*v.getD (m+1) 0:=by omega
  rw[<-this];exact M
theorem drop_zero{l:List Int}{t:Nat}(h:∀m,t<=m->l.getD m 0=0):vl (l.drop t)=0:=by
 have h1:=BG (l:=l.drop t) (k:=0) (Nat.zero_le _) (fun j _=>by rw[ot];exact h _ (by omega));rw[<-h1];rfl
theorem CR{l:List Int}(j:Dig l){t:Nat}(h:vl (l.drop t)=0):∀m,t<=m->l.getD m 0=0:=by
 intro m hm;have e:=iQ (l.drop t) (m-t);have e2:=lp (l.drop t) (m-t);rw[ot,(by omega:t+(m-t)=m)]at e2;have h1:=ou (iU j t) (m-t);have h2:=bM (iU (iU j t) (m-t));have q:=bM (iU (iU j t) (m-t+1));have z:=fj j m;have p:=jo (m-t);have C:1*vl ((l.drop t).drop (m-t))<=pB (m-t)*vl ((l.drop t).drop (m-t)):=mrT p h2;omega
theorem win{z:List Int}(p:Dig z){j n:Nat}(h:∀m,j+n+1<=m->z.getD m 0=0):vl (z.drop j)<pB (n+1):=by
 have e:=iQ (z.drop j) (n+1);rw[List.drop_drop,(by omega:j+(n+1)=j+n+1),drop_zero h]at e;have:=Dq (iU p j) (n+1);omega
theorem BW{y z:List Int}{j:Nat}{D:Int}(hk:vk z j=vk y j)(h:vl z=vl y+pB j*D):vl (z.drop j)=vl (y.drop j)+D:=by
 have e1:=iQ y j;have e2:=iQ z j;have hp:=jo j;have:pB j*vl (z.drop j)=pB j*(vl (y.drop j)+D):=by rw[Int.mul_add];omega
 exact Int.eq_of_mul_eq_mul_left (by omega) this
def gm(x y:Nat):Nat:=if y=0 then 0 else Nat.log2 (x*y)+2+(if x<y then 1 else 0)
theorem Db{x y:Nat}(m:0<y):gm y (x%y)<gm x y:=by
 unfold gm;rw[if_neg (by omega:¬y=0)];by_cases p:x%y=0
 ·rw[if_pos p];omega
 ·rw[if_neg p];have q:=Nat.mod_lt x m;rw[if_neg (by omega:¬y<x%y)];by_cases j:x<y
  ·rw[if_pos j,Nat.mod_eq_of_lt j,Nat.mul_comm y x];omega
  ·rw[if_neg j];have h2:2*(x%y)<=x:=by
    have e:=Nat.div_add_mod x y;have:y*1<=y*(x / y):=Nat.mul_le_mul_left y (Nat.div_pos (by omega) m);omega
   have z:2*(y*(x%y))<=x*y:=by
    have:=Nat.mul_le_mul_left y h2;rw[Nat.mul_comm x y,<-Nat.mul_assoc,Nat.mul_comm 2 y,Nat.mul_assoc];exact this
   have hp:0<y*(x%y):=Nat.mul_pos m (by omega);have:Nat.log2 (y*(x%y))<Nat.log2 (x*y):=by
    rw[Nat.log2_lt (by omega)];have C:=Nat.lt_log2_self (n:=x*y);have D:2^(Nat.log2 (x*y)+1)=2*2^Nat.log2 (x*y):=by rw[Nat.pow_succ];omega
    omega
   omega
theorem A5{x y k:Nat}(h:x*y<2^k):gm x y<=k+3:=by
 unfold gm;split
 ·omega
 ·by_cases j:x*y=0
  ·rw[j];have:Nat.log2 0=0:=by decide
   rw[this];split<;>omega
  ·have:=(Nat.log2_lt j).2 h;split<;>omega
theorem FC:∀k:Nat,pB k<=((2^(30*k):Nat):Int)
 |0=>by decide
 |k+1=>by
  have m:=FC k;rw[dN,(by omega:30*(k+1)=30*k+30),Nat.pow_add];generalize (2:Nat)^(30*k)=q at m;have j:(2:Nat)^30=1073741824:=by decide
  rw[j,Int.natCast_mul];omega
theorem FZ{l:List Int}(h:Dig l){k:Nat}(hk:l.length<=k):(vl l).toNat<2^(30*k):=by
 have h1:=jn h;have h2:=jy hk;have j:=FC k;have m:=bM h;omega
end Go.L


set_option linter.all false
namespace Go.L
open Go Go.Eng
def gZ(v w:Int):Int:=((Nat.gcd v.natAbs w.natAbs:Nat):Int)
theorem Fl{v w:Int}(h:w≠0):1<=gZ v w:=by
 unfold gZ;have:=Nat.gcd_pos_of_pos_right v.natAbs (by omega:0<w.natAbs);omega
theorem vv(v w:Int):v=(v / gZ v w)*gZ v w:=by
 have:gZ v w∣v:=by unfold gZ;exact Int.ofNat_dvd_left.2 (Nat.gcd_dvd_left _ _)
 rw[Int.ediv_mul_cancel this]
theorem tk(v w:Int):w=(w / gZ v w)*gZ v w:=by
 have:gZ v w∣w:=by unfold gZ;exact Int.ofNat_dvd_left.2 (Nat.gcd_dvd_right _ _)
 rw[Int.ediv_mul_cancel this]
theorem Fe(v w:Int):gZ v w=((Int.gcd w v:Nat):Int):=by unfold gZ Int.gcd;rw[Nat.gcd_comm]
theorem Bw(p q:Int):Rat.divInt (-p) (-q)=Rat.divInt p q:=by
 by_cases h:q=0
 ·subst h;simp[Rat.divInt_zero]
 ·rw[Rat.divInt_eq_divInt_iff (by omega) h];grind
theorem sm{p q:Int}(j:0<q):(Rat.divInt p q).num=p / gZ p q:=by
 rw[Rat.num_divInt,Int.sign_eq_one_of_pos j,Int.one_mul,Fe]
theorem sJ{p q:Int}(j:0<q):((Rat.divInt p q).den:Int)=q / gZ p q:=by
 rw[Rat.den_divInt,if_neg (by omega),Fe];rw[Int.natCast_ediv];congr 1;omega
structure QL (nn:Bool) (ng:List Int) (dn:Bool) (dg:List Int) (r:Rat) (k:Nat):Prop where
 num:isI nn ng r.num
 den:isI dn dg (r.den:Int)
 nl:ng.length<=k
 dl:dg.length<=k
theorem QL.mono{nn dn:Bool}{ng m:List Int}{r:Rat}{j k:Nat}(h:QL nn ng dn m r j)(hk:j<=k):QL nn ng dn m r k:=⟨h.num,h.den,Nat.le_trans h.nl hk,Nat.le_trans h.dl hk⟩
theorem den_pos(r:Rat):(0:Int)<(r.den:Int):=by have:=r.den_nz;omega
theorem Jf(r:Rat):gZ r.num (r.den:Int)=1:=by
 have:=r.reduced;unfold gZ Nat.Coprime at*;rw[Int.natAbs_natCast,this];rfl
theorem Ek(v:Int):(Rat.divInt v 1).num=v/\((Rat.divInt v 1).den:Int)=1:=by
 have e:gZ v 1=1:=by unfold gZ;simp
 rw[sm (by omega),sJ (by omega),e];simp
theorem mX(p g:Int)(j:1<=g)(h:p=(p / g)*g):(p / g).natAbs<=p.natAbs:=by
 have e:p.natAbs=(p / g).natAbs*g.natAbs:=by rw[<-Int.natAbs_mul,<-h]
 have:(p / g).natAbs*1<=(p / g).natAbs*g.natAbs:=Nat.mul_le_mul_left _ (by omega);omega
end Go.L


set_option linter.unusedVariables false
namespace Go.L
open Go Go.Eng
theorem x8{α β:Type}(n:Nat)(f:(α->Option β)->α->Option β)(a:α):aQ (n+1) f a=f (aQ n f) a:=rfl
theorem gO{σ γ α:Type}{Q:α->Prop}{f:(σ->Option α)->σ->Option α}{n len:Nat}(mk:γ->Int->σ)(P:Nat->γ->Prop)(I:len<n)(J:len<=9223372036854775806){c0:γ}(D:P 0 c0)
  (step:∀again (k:Nat) c,k<len->P k c->(∀p,P (k+1) p->Ok (again (mk p (MR ((k:Int)+1)))) Q)->Ok (f again (mk c (k:Int))) Q) (j:∀again c,P len c->Ok (f again (mk c (len:Int))) Q):Ok (aQ n f (mk c0 0)) Q:=by
 have key:∀(m k:Nat) (c:γ),len-k<m->k<=len->P k c->Ok (aQ m f (mk c (k:Int))) Q:=by
  intro m;induction m with
  |zero=>intro k c h;omega
  |succ m E=>
   intro k c hm hk C;rw[x8];by_cases q:k<len
   ·refine step _ k c q C fun p z=>?_
    have hw:MR ((k:Int)+1)=((k+1:Nat):Int):=by rw[wrap64_in (by omega) (by omega)];omega
    rw[hw];exact E (k+1) p (by omega) (by omega) z
   ·obtain rfl:k=len:=by omega
    exact j _ c C
 exact key n 0 c0 (by omega) (by omega) D
end Go.L

