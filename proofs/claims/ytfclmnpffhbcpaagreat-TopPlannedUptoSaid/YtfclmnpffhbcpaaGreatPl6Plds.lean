import Derived.Test.YtfclmnpffhbcpaaGreatPl2Plds
set_option linter.all false
namespace Go.L
open Go Go.Eng
def vl:List Int->Int
 |[]=>0
 |d::l=>d+1000000000*vl l
def pB:Nat->Int
 |0=>1
 |k+1=>1000000000*pB k
def Dig(l:List Int):Prop:=∀d,d∈l->0<=d/\d<1000000000
def Can:List Int->Prop
 |[]=>True
 |d::l=>(0<=d/\d<1000000000)/\(l=[]->d≠0)/\Can l
theorem iv:∀k,1<=pB k
 |0=>by decide
 |k+1=>by have:=iv k;unfold pB;omega
theorem dE(k:Nat):pB (k+1)=1000000000*pB k:=rfl
theorem mB:∀j k,pB (j+k)=pB j*pB k
 |0,k=>by rw[Nat.zero_add];show _=1*_;omega
 |j+1,k=>by rw[Nat.add_right_comm,dE,mB j k,dE];grind
theorem iX{j k:Nat}(h:j<=k):pB j<=pB k:=by
 induction k with
 | zero => obtain rfl:j=0:=by omega
           exact Int.le_refl _
 |succ k q=>
  by_cases z:j=k+1
  ·rw[z];exact Int.le_refl _
  ·have:=q (by omega);have:=iv k;rw[dE];omega
theorem oO:Dig []:=fun _ h=>by cases h
theorem jy{d:Int}{l:List Int}:Dig (d::l)↔(0<=d/\d<1000000000)/\Dig l:=
 ⟨fun h=>⟨h d (by simp),fun x j=>h x (by simp[j])⟩,fun h x j=>by rcases List.mem_cons.1 j with rfl|j;exact h.1;exact h.2 x j⟩
theorem mc{a b:List Int}:Dig (a++b)↔Dig a/\Dig b:=
 ⟨fun h=>⟨fun x j=>h x (by simp[j]),fun x j=>h x (by simp[j])⟩,fun h x j=>by rcases List.mem_append.1 j with j|j;exact h.1 x j;exact h.2 x j⟩
theorem gz{d:Int}:Dig [d]↔0<=d/\d<1000000000:=by rw[jy];exact⟨fun h=>h.1,fun h=>⟨h,oO⟩⟩
theorem sQ{l:List Int}(h:Dig l)(k:Nat):Dig (l.take k):=fun x j=>h x (List.mem_of_mem_take j)
theorem jJ{l:List Int}(h:Dig l)(k:Nat):Dig (l.drop k):=fun x j=>h x (List.mem_of_mem_drop j)
theorem ry(k:Nat):Dig (List.replicate k 0):=fun x j=>by rw[List.eq_of_mem_replicate j];omega
theorem dC{l:List Int}(h:Dig l)(k:Nat):0<=l.getD k 0/\l.getD k 0<1000000000:=by
 by_cases hk:k<l.length
 ·have:l.getD k 0=l[k]:=by simp[List.getD,hk]
  rw[this];exact h _ (List.getElem_mem hk)
 ·have:l.getD k 0=0:=by simp[List.getD,List.getElem?_eq_none (by omega:l.length<=k)]
  rw[this];omega
theorem kD{l:List Int}(h:Dig l){k:Nat}{x:Int}(q:0<=x/\x<1000000000):Dig (l.set k x):=fun y j=>by
 rcases List.mem_or_eq_of_mem_set j with j|rfl
 ·exact h y j
 ·exact q
theorem Can.dig:∀{l:List Int},Can l->Dig l
 |[],_=>oO
 |d::l,h=>jy.2 ⟨h.1,Can.dig h.2.2⟩
theorem mQ:∀a b:List Int,vl (a++b)=vl a+pB a.length*vl b
 |[],b=>by show vl b=0+1*vl b;omega
 |d::a,b=>by
  rw[List.cons_append,List.length_cons,dE];show d+1000000000*vl (a++b)=d+1000000000*vl a+_;rw[mQ a b];grind
theorem iQ(d:Int):vl [d]=d:=by show d+1000000000*0=d;omega
theorem we:∀k:Nat,vl (List.replicate k 0)=0
 |0=>rfl
 |k+1=>by rw[List.replicate_succ];show 0+1000000000*vl (List.replicate k 0)=0;rw[we k];rfl
theorem bI:∀{l:List Int},Dig l->0<=vl l
 |[],_=>Int.le_refl _
 |d::l,h=>by have j:=jy.1 h;have:=bI j.2;unfold vl;omega
theorem iu:∀{l:List Int},Dig l->vl l<pB l.length
 |[],_=>by decide
 |d::l,h=>by have j:=jy.1 h;have:=iu j.2;rw[List.length_cons,dE];unfold vl;omega
def vk(l:List Int)(k:Nat):Int:=vl (l.take k)
theorem jS(l:List Int):vk l 0=0:=by simp[vk,vl]
theorem gV{l:List Int}{k:Nat}(h:l.length<=k):vk l k=vl l:=by unfold vk;rw[List.take_of_length_le h]
theorem gk(l:List Int)(k:Nat):vk l (k+1)=vk l k+pB k*l.getD k 0:=by
 by_cases hk:k<l.length
 ·unfold vk;rw[List.take_succ_eq_append_getElem hk,mQ,iQ,List.length_take,Nat.min_eq_left (by omega)];simp[List.getD,hk]
 ·rw[gV (by omega),gV (by omega)];have:l.getD k 0=0:=by simp[List.getD,List.getElem?_eq_none (by omega:l.length<=k)]
  rw[this];omega
theorem ks{l:List Int}(h:Dig l)(k:Nat):0<=vk l k:=bI (sQ h k)
theorem ve{l:List Int}(h:Dig l)(k:Nat):vk l k<pB k:=by
 have:=iu (sQ h k);have j:=iX (by rw[List.length_take];omega:(l.take k).length<=k);unfold vk;omega
theorem Gl{l:List Int}{k:Nat}{x:Int}:vk (l.set k x) k=vk l k:=by unfold vk;rw[List.take_set_of_le (by omega)]
theorem Ee{l:List Int}{k:Nat}{x:Int}(h:k<l.length):(l.set k x).getD k 0=x:=by simp[List.getD,h]
theorem jL{l:List Int}{j k:Nat}{x:Int}(h:k≠j):(l.set k x).getD j 0=l.getD j 0:=by simp[List.getD,h]
theorem CH{l:List Int}{k:Nat}{x:Int}(h:k<l.length):vk (l.set k x) (k+1)=vk l k+pB k*x:=by rw[gk,Gl,Ee h]
theorem EI(l:List Int)(k:Nat)(h:k<=l.length):vl l=vk l k+pB k*vl (l.drop k):=by
 have:=mQ (l.take k) (l.drop k);rw[List.take_append_drop,List.length_take,Nat.min_eq_left h]at this;exact this
theorem nz:∀{l:List Int} {k:Nat} {x:Int},k<l.length->vl (l.set k x)=vl l+pB k*(x-l.getD k 0)
 |[],k,x,h=>by simp at h
 |d::l,0,x,_=>by
  show x+1000000000*vl l=d+1000000000*vl l+1*(x-d);omega
 |d::l,k+1,x,h=>by
  have j:=nz (l:=l) (k:=k) (x:=x) (by simpa using h);show d+1000000000*vl (l.set k x)=d+1000000000*vl l+1000000000*pB k*(x-l.getD k 0);rw[j];grind
theorem sO:∀{l:List Int},Can l->vl l=0->l=[]
 |[],_,_=>rfl
 |d::l,h,j=>by
  have C:=bI h.2.2.dig;have q:d+1000000000*vl l=0:=j;have h1:=h.1;have z:l=[]:=sO h.2.2 (by omega);have:=h.2.1 z;exfalso;omega
theorem zC:∀{a b:List Int},Can a->Can b->vl a=vl b->a=b
 |[],b,_,j,h=>(sO j h.symm).symm
 |a,[],q,_,h=>sO q h
 |x::a,y::b,q,j,h=>by
  have z:x+1000000000*vl a=y+1000000000*vl b:=h;have h1:=q.1;have C:=j.1;obtain rfl:x=y:=by omega
  rw[zC q.2.2 j.2.2 (by omega)]
theorem kJ{l:List Int}(h:Can l)(j:l≠[]):0<vl l:=by
 have z:=bI h.dig;by_cases q:vl l=0
 ·exact absurd (sO h q) j
 ·omega
theorem Bp:∀{l:List Int},Can l->l≠[]->pB (l.length-1)<=vl l
 |[],_,h=>absurd rfl h
 |[d],h,_=>by
  have:=h.1;have:=h.2.1 rfl;show 1<=d+1000000000*0;omega
 |d::e::l,h,_=>by
  have j:=Bp h.2.2 (by simp);have:=h.1;show 1000000000*pB ((e::l).length-1)<=d+1000000000*vl (e::l);omega
theorem lW{l:List Int}(h:Can l){k:Nat}(hk:vl l<pB k):l.length<=k:=by
 by_cases j:l=[]
 ·subst j;simp
 ·have h1:=Bp h j;by_cases q:k<l.length
  ·have:=iX (by omega:k<=l.length-1);omega
  ·omega
theorem xc:∀{a:List Int} {d:Int},Dig a->(0<=d/\d<1000000000)->d≠0->Can (a++[d])
 |[],d,_,j,q=>⟨j,fun _=>q,trivial⟩
 |x::a,d,z,j,q=>⟨(jy.1 z).1,fun h=>by simp at h,xc (jy.1 z).2 j q⟩
theorem zZ{l:List Int}(h:Dig l)(j:l=[]\/l.getD (l.length-1) 0≠0):Can l:=by
 rcases List.eq_nil_or_concat l with rfl|⟨a,d,rfl⟩
 ·trivial
 ·rw[List.concat_eq_append]at*;have q:=mc.1 h;refine xc q.1 (gz.1 q.2) ?_;rcases j with j|j
  ·simp at j
  ·simpa using j
theorem sr:∀{l:List Int},Can l->l≠[]->l.getD (l.length-1) 0≠0
 |[],_,h=>absurd rfl h
 |[d],h,_=>h.2.1 rfl
 |d::e::l,h,_=>by
  have j:=sr h.2.2 (by simp);simpa using j
theorem zm{l:List Int}{k:Nat}(hk:k<=l.length)(z:∀j,k<=j->l.getD j 0=0):vl (l.take k)=vl l:=by
 have:∀m,vk l (k+m)=vk l k:=by
  intro m;induction m with
  |zero=>rfl
  |succ m C=>rw[<-Nat.add_assoc,gk,C,z _ (by omega)];omega
 have q:=this (l.length-k);rw[gV (by omega)]at q;exact q.symm
theorem pP{n:Int}(h:0<n):sgn n=1:=by unfold sgn;rw[if_neg (by omega),if_pos h]
theorem me{n:Int}(h:n<0):sgn n=-1:=by unfold sgn;rw[if_pos h]
theorem Ck:∀{a b:List Int},Dig a->Dig b->a.length=b.length->rX a b=sgn (vl a-vl b)
 |[],[],_,_,_=>rfl
 |[],_::_,_,_,h=>by simp at h
 |_::_,[],_,_,h=>by simp at h
 |x::a,y::b,E,I,h=>by
  have z:=jy.1 E;have C:=jy.1 I;have J:=Ck z.2 C.2 (by simpa using h);show(if rX a b≠0 then rX a b else qg x y)=sgn (x+1000000000*vl a-(y+1000000000*vl b));rw[J];rcases dS (vl a-vl b)with⟨h1,q⟩|⟨h1,q⟩|⟨h1,q⟩
  ·rw[if_pos (by omega),q,me (by omega)]
  ·rw[if_neg (by omega),(by omega:x+1000000000*vl a-(y+1000000000*vl b)=x-y)];unfold qg;rcases dS (x-y)with⟨D,j⟩|⟨D,j⟩|⟨D,j⟩
   ·rw[j,if_pos (by omega)]
   ·rw[j,if_neg (by omega),if_neg (by omega)]
   ·rw[j,if_neg (by omega),if_pos (by omega)]
  ·rw[if_pos (by omega),q,pP (by omega)]
theorem de{a b:List Int}(j:Dig a)(q:Can b)(h:a.length<b.length):vl a<vl b:=by
 have h1:=iu j;have z:=Bp q (by intro e;subst e;simp at h);have C:=iX (by omega:a.length<=b.length-1);omega
def isI(neg:Bool)(g:List Int)(v:Int):Prop:=Can g/\(neg=true->g≠[])/\v=(if neg then-vl g else vl g)
theorem Fv{p q:Bool}{g h:List Int}{v:Int}(a:isI p g v)(b:isI q h v):p=q/\g=h:=by
 obtain⟨j,a2,a3⟩:=a;obtain⟨z,D,C⟩:=b;cases p<;>cases q
 ·exact⟨rfl,zC j z (by simp at a3 C;omega)⟩
 ·have:=kJ z (D rfl);have:=bI j.dig;simp at a3 C;exfalso;omega
 ·have:=kJ j (a2 rfl);have:=bI z.dig;simp at a3 C;exfalso;omega
 ·exact⟨rfl,zC j z (by simp at a3 C;omega)⟩
theorem iJ{p:Bool}{g:List Int}{v:Int}(a:isI p g v):vl g=v.natAbs:=by
 obtain⟨j,a2,a3⟩:=a;have:=bI j.dig;cases p<;>simp at a3<;>omega
theorem ju{p:Bool}{g:List Int}{v:Int}(a:isI p g v){k:Nat}(h:-pB k<v)(j:v<pB k):g.length<=k:=
 lW a.1 (by rw[iJ a];omega)
theorem Cf{p:Bool}{g:List Int}{v:Int}(a:isI p g v):sgn v=(if g=[]then 0 else if p then-1 else 1):=by
 obtain⟨q,a2,a3⟩:=a;by_cases j:g=[]
 ·subst j;have hp:p=false:=by cases p with|false=>rfl|true=>exact absurd rfl (a2 rfl)
  subst hp;subst a3;rfl
 ·have:=kJ q j;rw[if_neg j];cases p
  ·simp at a3;rw[a3,pP this];rfl
  ·simp at a3;rw[a3,me (by omega)];rfl
theorem kp{p:Bool}{g:List Int}{v:Int}(a:isI p g v){k:Nat}(hk:g.length<=k):-pB k<v/\v<pB k:=by
 have h1:=iJ a;have j:=iu a.1.dig;have q:=iX hk;omega
theorem ik{p q r:Bool}{g h z:List Int}{v w:Int}(a:isI p g v)(b:isI q h w)(c:isI r z (v*w)){j k:Nat}(C:g.length<=j)(hk:h.length<=k):z.length<=j+k:=by
 refine lW c.1 ?_;have h1:=iJ a;have D:=iJ b;have E:=iJ c;have I:=iu a.1.dig;have a2:=iu b.1.dig;have a3:=bI a.1.dig;have a4:=bI b.1.dig;have J:=iX C;have N:=iX hk;have O:=iv j;have e:vl z=vl g*vl h:=by rw[E,h1,D,Int.natAbs_mul];push_cast;rfl
 rw[e,mB];have:vl g*vl h<=pB j*vl h:=mrT (by omega) a4;have:pB j*vl h<pB j*pB k:=Int.mul_lt_mul_of_pos_left (by omega) (by omega);omega
theorem wL{p q r:Bool}{g h z:List Int}{v w:Int}(a:isI p g v)(b:isI q h w)(c:isI r z (v+w)){k:Nat}(j:g.length<=k)(hk:h.length<=k):z.length<=k+1:=by
 have h1:=kp a j;have C:=kp b hk;have:=iv k;exact ju c (by rw[dE];omega) (by rw[dE];omega)
theorem AG{p q r:Bool}{g h z:List Int}{v w:Int}(a:isI p g v)(b:isI q h w)(c:isI r z (v-w)){k:Nat}(j:g.length<=k)(hk:h.length<=k):z.length<=k+1:=by
 have h1:=kp a j;have C:=kp b hk;have:=iv k;exact ju c (by rw[dE];omega) (by rw[dE];omega)
theorem jm{p:Bool}{g:List Int}{v:Int}(a:isI p g v)(h:-9223372036854775808<=v)(j:v<=9223372036854775807):g.length<=3:=by
 have:pB 3=1000000000000000000000000000:=rfl;exact ju a (by omega) (by omega)
end Go.L


set_option linter.all false
namespace Go.L
open Go Go.Eng
structure KN (P W V wl x0 x1 x2 vw v1 v2:Int):Prop where
 p:1<=P
 w:W=wl+P*(x0+1000000000*x1+1000000000000000000*x2)
 wl:0<=wl/\wl<P
 v:V=vw+P*(v2+1000000000*v1)
 vw:0<=vw/\vw<P
 v1:500000000<=v1/\v1<1000000000
 v2:0<=v2/\v2<1000000000
 x0:0<=x0/\x0<1000000000
 x1:0<=x1/\x1<1000000000
 x2:0<=x2/\x2<1000000000
 lt:W<1000000000*V
section
variable{P W V wl x0 x1 x2 vw v1 v2:Int}
theorem KN.top(k:KN P W V wl x0 x1 x2 vw v1 v2):x2<=v1:=by
 obtain⟨hp,hw,j,q,z,C,D,E,h1,J,I⟩:=k;by_cases h:x2<=v1
 ·exact h
 ·exfalso;have e1:W=wl+P*x0+1000000000*(P*x1)+1000000000000000000*(P*x2):=by rw[hw];grind
  have e2:V=vw+P*v2+1000000000*(P*v1):=by rw[q];grind
  have f1:P*(v1+1)<=P*x2:=mlT (by omega) (by omega);have f2:P*v2<=P*999999999:=mlT (by omega) (by omega);have f3:0<=P*x0:=Int.mul_nonneg (by omega) E.1;have f4:0<=P*x1:=Int.mul_nonneg (by omega) h1.1;rw[Int.mul_add]at f1;omega
theorem KN.less(k:KN P W V wl x0 x1 x2 vw v1 v2){g:Int}(q:0<=g)(h:x0+1000000000*x1+1000000000000000000*x2<g*(v2+1000000000*v1)):W<g*V:=by
 obtain⟨hp,hw,z,C,j,D,E,J,h1,N,I⟩:=k;have e:g*V=g*vw+P*(g*(v2+1000000000*v1)):=by rw[C];grind
 have f1:P*(x0+1000000000*x1+1000000000000000000*x2+1)<=P*(g*(v2+1000000000*v1)):=mlT (by omega) (by omega);have f2:0<=g*vw:=Int.mul_nonneg q j.1;rw[Int.mul_add]at f1;omega
theorem KN.more(k:KN P W V wl x0 x1 x2 vw v1 v2){g:Int}(J:1<=g)(j:g<=1000000000)(h:g*(v2+1000000000*v1)<=x0+1000000000*x1+1000000000000000000*x2):(g-1)*V<=W:=by
 obtain⟨hp,hw,q,z,C,D,E,N,h1,O,I⟩:=k;have e:(g-1)*V=(g-1)*vw+P*((g-1)*(v2+1000000000*v1)):=by rw[z];grind
 have f2:(g-1)*vw<=(g-1)*P:=mlT (by omega) (by omega);have e2:(g-1)*P=P*(g-1):=Int.mul_comm _ _;have e3:(g-1)*(v2+1000000000*v1)=g*(v2+1000000000*v1)-(v2+1000000000*v1):=by grind
 have f1:P*((g-1)*(v2+1000000000*v1)+(g-1))<=P*(x0+1000000000*x1+1000000000000000000*x2):=mlT (by omega) (by omega);rw[Int.mul_add]at f1;omega
theorem KN.first(k:KN P W V wl x0 x1 x2 vw v1 v2){g r:Int}(J:r<v1)(z:0<=g)(h:x1+1000000000*x2=g*v1+r):W<(g+1)*V:=by
 obtain⟨hp,hw,C,D,j,E,q,N,h1,O,I⟩:=k;have e:(g+1)*V=(g+1)*vw+P*((g+1)*v2)+1000000000*(P*((g+1)*v1)):=by rw[D];grind
 have e2:(g+1)*v1=g*v1+v1:=by grind
 have f1:P*(x1+1000000000*x2+1)<=P*((g+1)*v1):=mlT (by omega) (by omega);have f2:0<=(g+1)*vw:=Int.mul_nonneg (by omega) j.1;have f3:0<=P*((g+1)*v2):=Int.mul_nonneg (by omega) (Int.mul_nonneg (by omega) q.1);have e1:W=wl+P*x0+1000000000*(P*(x1+1000000000*x2)):=by rw[hw];grind
 have f4:P*x0<=P*999999999:=mlT (by omega) (by omega);rw[Int.mul_add P _ 1]at f1;omega
end
theorem sJ{t s:Int}(C:1<=t)(j:t<1000000000)(hs:s=1000000000 / (t+1)):500000000<=t*s/\1<=s/\s<=500000000/\(t+1)*s<=1000000000:=by
 have hm:=Int.emod_add_mul_ediv 1000000000 (t+1);have q:=Int.emod_lt_of_pos 1000000000 (by omega:0<t+1);have z:=Int.emod_nonneg 1000000000 (by omega:t+1≠0);rw[<-hs]at hm;have e:(t+1)*s=t*s+s:=by grind
 have s1:1<=s:=by rw[hs];exact(Int.le_ediv_iff_mul_le (by omega)).2 (by omega)
 have s2:s<=500000000:=by
  have:2*s<=(t+1)*s:=mrT (by omega) (by omega);omega
 refine⟨?_,s1,s2,by omega⟩;have h1:0<=(t-1)*(s-1):=Int.mul_nonneg (by omega) (by omega);have D:(t-1)*(s-1)=t*s-t-s+1:=by grind
 omega
theorem iY(l:List Int)(j:Nat):vl (l.drop j)=l.getD j 0+1000000000*vl (l.drop (j+1)):=by
 by_cases h:j<l.length
 ·rw[List.drop_eq_getElem_cons h];show l[j]+_=_;simp[List.getD,h]
 ·rw[List.drop_of_length_le (by omega),List.drop_of_length_le (by omega)];have:l.getD j 0=0:=by simp[List.getD,List.getElem?_eq_none (by omega:l.length<=j)]
  rw[this];rfl
theorem gK(l:List Int)(k:Nat):vl l=vk l k+pB k*vl (l.drop k):=by
 by_cases h:k<=l.length
 ·exact EI l k h
 ·rw[gV (by omega),List.drop_of_length_le (by omega)];show _=_+_*0;omega
theorem qf{l:List Int}(h:Dig l){k:Nat}(q:vl l<pB k):vl (l.drop k)=0:=by
 have h1:=gK l k;have z:=ks h k;have C:=bI (jJ h k);have D:=iv k;by_cases j:vl (l.drop k)=0
 ·exact j
 ·have:pB k*1<=pB k*vl (l.drop k):=mlT (by omega) (by omega);omega
theorem qE(l:List Int)(j k:Nat):(l.drop j).getD k 0=l.getD (j+k) 0:=by simp[List.getD,List.getElem?_drop]
theorem GC{X v:List Int}{n:Nat}(S:2<=n)(q:Dig X)(z:Dig v)(I:v.length=n)(j:500000000<=v.getD (n-1) 0)(D:vl X<1000000000*vl v):
  KN (pB (n-2)) (vl X) (vl v) (vk X (n-2)) (X.getD (n-2) 0) (X.getD (n-1) 0) (X.getD n 0) (vk v (n-2)) (v.getD (n-1) 0) (v.getD (n-2) 0):=by
 obtain⟨m,rfl⟩:∃m,n=m+2:=⟨n-2,by omega⟩;have e1:m+2-2=m:=by omega
 have e2:m+2-1=m+1:=by omega
 rw[e1,e2];have j:500000000<=v.getD (m+1) 0:=j;have C:=iu z;rw[I]at C;have E:vl X<pB (m+3):=by rw[dE];omega
 have J:=qf q E;have N:=gK X m;have a2:=iY X m;have a3:vl (X.drop (m+1))=X.getD (m+1) 0+1000000000*vl (X.drop (m+2)):=iY X (m+1);have a4:vl (X.drop (m+2))=X.getD (m+2) 0+1000000000*vl (X.drop (m+3)):=iY X (m+2);rw[J]at a4;have O:=gK v m;have T:=iY v m;have R:=iY v (m+1);rw[List.drop_of_length_le (by omega:v.length<=m+1+1)]at R;have U:vl ([]:List Int)=0:=rfl;have c0:=dC q m;have c1:=dC q (m+1);have c2:=dC q (m+2);have d1:=dC z (m+1);have d2:=dC z m;refine⟨iv m,?_,⟨ks q m,ve q m⟩,?_,⟨ks z m,ve z m⟩,⟨j,d1.2⟩,d2,c0,c1,c2,D⟩
 ·have:vl (X.drop m)=X.getD m 0+1000000000*X.getD (m+1) 0+1000000000000000000*X.getD (m+2) 0:=by omega
  rw[<-this];exact N
 ·have:vl (v.drop m)=v.getD m 0+1000000000*v.getD (m+1) 0:=by omega
  rw[<-this];exact O
theorem drop_zero{l:List Int}{t:Nat}(h:∀m,t<=m->l.getD m 0=0):vl (l.drop t)=0:=by
 have h1:=zm (l:=l.drop t) (k:=0) (Nat.zero_le _) (fun j _=>by rw[qE];exact h _ (by omega));rw[<-h1];rfl
theorem BZ{l:List Int}(j:Dig l){t:Nat}(h:vl (l.drop t)=0):∀m,t<=m->l.getD m 0=0:=by
 intro m hm;have e:=gK (l.drop t) (m-t);have e2:=iY (l.drop t) (m-t);rw[qE,(by omega:t+(m-t)=m)]at e2;have h1:=ks (jJ j t) (m-t);have q:=bI (jJ (jJ j t) (m-t));have C:=bI (jJ (jJ j t) (m-t+1));have D:=dC j m;have z:=iv (m-t);have E:1*vl ((l.drop t).drop (m-t))<=pB (m-t)*vl ((l.drop t).drop (m-t)):=mrT z q;omega
theorem win{z:List Int}(q:Dig z){j n:Nat}(h:∀m,j+n+1<=m->z.getD m 0=0):vl (z.drop j)<pB (n+1):=by
 have e:=gK (z.drop j) (n+1);rw[List.drop_drop,(by omega:j+(n+1)=j+n+1),drop_zero h]at e;have:=ve (jJ q j) (n+1);omega
theorem BK{y z:List Int}{j:Nat}{D:Int}(hk:vk z j=vk y j)(h:vl z=vl y+pB j*D):vl (z.drop j)=vl (y.drop j)+D:=by
 have e1:=gK y j;have e2:=gK z j;have hp:=iv j;have:pB j*vl (z.drop j)=pB j*(vl (y.drop j)+D):=by rw[Int.mul_add];omega
 exact Int.eq_of_mul_eq_mul_left (by omega) this
def gm(x y:Nat):Nat:=if y=0 then 0 else Nat.log2 (x*y)+2+(if x<y then 1 else 0)
theorem xb{x y:Nat}(q:0<y):gm y (x%y)<gm x y:=by
 unfold gm;rw[if_neg (by omega:¬y=0)];by_cases z:x%y=0
 ·rw[if_pos z];omega
 ·rw[if_neg z];have C:=Nat.mod_lt x q;rw[if_neg (by omega:¬y<x%y)];by_cases j:x<y
  ·rw[if_pos j,Nat.mod_eq_of_lt j,Nat.mul_comm y x];omega
  ·rw[if_neg j];have D:2*(x%y)<=x:=by
    have e:=Nat.div_add_mod x y;have:y*1<=y*(x / y):=Nat.mul_le_mul_left y (Nat.div_pos (by omega) q);omega
   have E:2*(y*(x%y))<=x*y:=by
    have:=Nat.mul_le_mul_left y D;rw[Nat.mul_comm x y,<-Nat.mul_assoc,Nat.mul_comm 2 y,Nat.mul_assoc];exact this
   have hp:0<y*(x%y):=Nat.mul_pos q (by omega);have:Nat.log2 (y*(x%y))<Nat.log2 (x*y):=by
    rw[Nat.log2_lt (by omega)];have I:=Nat.lt_log2_self (n:=x*y);have J:2^(Nat.log2 (x*y)+1)=2*2^Nat.log2 (x*y):=by rw[Nat.pow_succ];omega
    omega
   omega
theorem vt{x y k:Nat}(h:x*y<2^k):gm x y<=k+3:=by
 unfold gm;split
 ·omega
 ·by_cases j:x*y=0
  ·rw[j];have:Nat.log2 0=0:=by decide
   rw[this];split<;>omega
  ·have:=(Nat.log2_lt j).2 h;split<;>omega
theorem DD:∀k:Nat,pB k<=((2^(30*k):Nat):Int)
 |0=>by decide
 |k+1=>by
  have z:=DD k;rw[dE,(by omega:30*(k+1)=30*k+30),Nat.pow_add];generalize (2:Nat)^(30*k)=q at z;have j:(2:Nat)^30=1073741824:=by decide
  rw[j,Int.natCast_mul];omega
theorem zI{l:List Int}(h:Dig l){k:Nat}(hk:l.length<=k):(vl l).toNat<2^(30*k):=by
 have h1:=iu h;have j:=iX hk;have q:=DD k;have z:=bI h;omega
end Go.L


set_option linter.all false
namespace Go.L
open Go Go.Eng
def gZ(v w:Int):Int:=((Nat.gcd v.natAbs w.natAbs:Nat):Int)
theorem zJ{v w:Int}(h:w≠0):1<=gZ v w:=by
 unfold gZ;have:=Nat.gcd_pos_of_pos_right v.natAbs (by omega:0<w.natAbs);omega
theorem pN(v w:Int):v=(v / gZ v w)*gZ v w:=by
 have:gZ v w∣v:=by unfold gZ;exact Int.ofNat_dvd_left.2 (Nat.gcd_dvd_left _ _)
 rw[Int.ediv_mul_cancel this]
theorem ri(v w:Int):w=(w / gZ v w)*gZ v w:=by
 have:gZ v w∣w:=by unfold gZ;exact Int.ofNat_dvd_left.2 (Nat.gcd_dvd_right _ _)
 rw[Int.ediv_mul_cancel this]
theorem DF(v w:Int):gZ v w=((Int.gcd w v:Nat):Int):=by unfold gZ Int.gcd;rw[Nat.gcd_comm]
theorem uD(p q:Int):Rat.divInt (-p) (-q)=Rat.divInt p q:=by
 by_cases h:q=0
 ·subst h;simp[Rat.divInt_zero]
 ·rw[Rat.divInt_eq_divInt_iff (by omega) h];grind
theorem np{p q:Int}(j:0<q):(Rat.divInt p q).num=p / gZ p q:=by
 rw[Rat.num_divInt,Int.sign_eq_one_of_pos j,Int.one_mul,DF]
theorem pD{p q:Int}(j:0<q):((Rat.divInt p q).den:Int)=q / gZ p q:=by
 rw[Rat.den_divInt,if_neg (by omega),DF];rw[Int.natCast_ediv];congr 1;omega
structure QL (nn:Bool) (ng:List Int) (dn:Bool) (dg:List Int) (r:Rat) (k:Nat):Prop where
 num:isI nn ng r.num
 den:isI dn dg (r.den:Int)
 nl:ng.length<=k
 dl:dg.length<=k
theorem QL.mono{q z:Bool}{ng C:List Int}{r:Rat}{j k:Nat}(h:QL q ng z C r j)(hk:j<=k):QL q ng z C r k:=⟨h.num,h.den,Nat.le_trans h.nl hk,Nat.le_trans h.dl hk⟩
theorem den_pos(r:Rat):(0:Int)<(r.den:Int):=by have:=r.den_nz;omega
theorem EA(r:Rat):gZ r.num (r.den:Int)=1:=by
 have:=r.reduced;unfold gZ Nat.Coprime at*;rw[Int.natAbs_natCast,this];rfl
theorem yK(v:Int):(Rat.divInt v 1).num=v/\((Rat.divInt v 1).den:Int)=1:=by
 have e:gZ v 1=1:=by unfold gZ;simp
 rw[np (by omega),pD (by omega),e];simp
theorem mv(p g:Int)(j:1<=g)(h:p=(p / g)*g):(p / g).natAbs<=p.natAbs:=by
 have e:p.natAbs=(p / g).natAbs*g.natAbs:=by rw[<-Int.natAbs_mul,<-h]
 have:(p / g).natAbs*1<=(p / g).natAbs*g.natAbs:=Nat.mul_le_mul_left _ (by omega);omega
theorem uJ{b:List Int}(j:Can b)(lb:1<=b.length):1<=b.getD (b.length-1) 0/\b.getD (b.length-1) 0<1000000000/\pB (b.length-1)*b.getD (b.length-1) 0<=vl b/\vl b<pB (b.length-1)*(b.getD (b.length-1) 0+1):=by
 have h1:=sr j (by rintro rfl;simp at lb);have q:=dC j.dig (b.length-1);have e:=gK b (b.length-1);have e2:=iY b (b.length-1);rw[List.drop_of_length_le (by omega:b.length<=b.length-1+1)]at e2;have e3:vl ([]:List Int)=0:=rfl;have z:vl (b.drop (b.length-1))=b.getD (b.length-1) 0:=by omega
 rw[z]at e;have C:=ks j.dig (b.length-1);have D:=ve j.dig (b.length-1);refine⟨by omega,q.2,by omega,?_⟩;rw[Int.mul_add];omega
theorem BC{b v:List Int}{s:Int}(D:Can b)(lb:1<=b.length)(hs:s=1000000000 / (b.getD (b.length-1) 0+1))(q:Can v)(v2:vl v=vl b*s):v.length=b.length/\500000000<=v.getD (v.length-1) 0/\1<=s/\s<=500000000:=by
 obtain⟨t1,t2,t3,t4⟩:=uJ D lb;obtain⟨t,E⟩:∃t,b.getD (b.length-1) 0=t:=⟨_,rfl⟩;rw[E]at t1 t2 t3 t4 hs;obtain⟨s1,s2,I,J⟩:=sJ t1 t2 hs;have hp:=iv (b.length-1);have R:pB b.length=1000000000*pB (b.length-1):=by rw[<-dE,(by omega:b.length-1+1=b.length)]
 have j:vl v<pB b.length:=by
  have:vl b*s<=(pB (b.length-1)*(t+1)-1)*s:=mrT (by omega) (by omega);have e:(pB (b.length-1)*(t+1)-1)*s=pB (b.length-1)*((t+1)*s)-s:=by grind
  have:pB (b.length-1)*((t+1)*s)<=pB (b.length-1)*1000000000:=mlT J (by omega);omega
 have z:500000000*pB (b.length-1)<=vl v:=by
  have h1:(pB (b.length-1)*t)*s<=vl b*s:=mrT t3 (by omega);have e:(pB (b.length-1)*t)*s=pB (b.length-1)*(t*s):=by grind
  have N:pB (b.length-1)*500000000<=pB (b.length-1)*(t*s):=mlT s1 (by omega);omega
 have C:v.length=b.length:=by
  have h1:=lW q j;by_cases h:v.length=b.length
  ·exact h
  ·have N:=iu q.dig;have S:=iX (by omega:v.length<=b.length-1);omega
 refine⟨C,?_,s2,I⟩;obtain⟨c1,c2,T,O⟩:=uJ q (by omega);rw[C]at O ⊢;by_cases h:500000000<=v.getD (b.length-1) 0
 ·exact h
 ·have:pB (b.length-1)*(v.getD (b.length-1) 0+1)<=pB (b.length-1)*500000000:=mlT (by omega) (by omega);omega
theorem Ff{a b q w y c s:Int}(hs:1<=s)(hc:0<=c/\c<s)(hw:y*s+c=w)(j:w<b*s)(h:w+q*(b*s)=a*s):y<b/\q*b+y=a:=by
 have h1:y*s<b*s:=by omega
 refine⟨Int.lt_of_mul_lt_mul_right h1 (by omega),?_⟩;have e:c=(a-y-q*b)*s:=by grind
 have z:a-y-q*b=0:=by
  by_cases h1:a-y-q*b=0
  ·exact h1
  ·exfalso;by_cases C:1<=a-y-q*b
   ·have:1*s<=(a-y-q*b)*s:=mrT C (by omega);omega
   ·have:(a-y-q*b)*s<=(-1)*s:=mrT (by omega) (by omega);omega
 omega
end Go.L


set_option linter.unusedVariables false
namespace Go.L
open Go Go.Eng
theorem C8{α β:Type}(n:Nat)(f:(α->Option β)->α->Option β)(a:α):aV (n+1) f a=f (aV n f) a:=rfl
theorem oY{σ γ α:Type}{Q:α->Prop}{f:(σ->Option α)->σ->Option α}{n len:Nat}(mk:γ->Int->σ)(P:Nat->γ->Prop)(J:len<n)(N:len<=9223372036854775806){c0:γ}(E:P 0 c0)
  (step:∀again (k:Nat) c,k<len->P k c->(∀q,P (k+1) q->Ok (again (mk q (Hy ((k:Int)+1)))) Q)->Ok (f again (mk c (k:Int))) Q) (j:∀again c,P len c->Ok (f again (mk c (len:Int))) Q):Ok (aV n f (mk c0 0)) Q:=by
 have key:∀(m k:Nat) (c:γ),len-k<m->k<=len->P k c->Ok (aV m f (mk c (k:Int))) Q:=by
  intro m;induction m with
  |zero=>intro k c h;omega
  |succ m I=>
   intro k c hm hk D;rw[C8];by_cases z:k<len
   ·refine step _ k c z D fun q C=>?_
    have hw:Hy ((k:Int)+1)=((k+1:Nat):Int):=by rw[wrap64_in (by omega) (by omega)];omega
    rw[hw];exact I (k+1) q (by omega) (by omega) C
   ·obtain rfl:k=len:=by omega
    exact j _ c D
 exact key n 0 c0 (by omega) (by omega) E
end Go.L

