import Derived.Test.YtglimpjlhfjgdaaGreatSldL51t
import Derived.Test.YtglimpjlhfjgdaaGreatSldLD
set_option linter.all false
namespace Go.L
open Go Go.Eng
abbrev K2:=A2 Int
def sY(z:Int):Prop:=-1048576<=z/\z<=1048576
def abv(Z:List Int)(level k:Int):Bool:=decide (2*gt Z k>level)
abbrev S5:=Int×Int×Int×Int×Bool
def stp(Z:List Int)(level:Int)(s:S5)(a b:Int):S5:=
 if (abv Z level a&&!abv Z level b)=true then(mn a b,mx a b,s.2.2.1,s.2.2.2.1,true)else if (!abv Z level a&&abv Z level b)=true then(s.1,s.2.1,mn a b,mx a b,s.2.2.2.2)else s
def Cp(Z:List Int)(level:Int)(t:A3 Int):Nat->S5
 |0=>(0,0,0,0,false)
 |k+1=>stp Z level (Cp Z level t k) (A3.get t (k:Int)) (A3.get t (((k+1)%3:Nat):Int))
def Bx(s:S5):Option (K2×K2):=match s with|(f0,f1,t0,t1,true)=>some (A2.mk f0 f1,A2.mk t0 t1)|_=>none
def seg(Z:List Int)(level:Int)(t:A3 Int):Option (K2×K2):=Bx (Cp Z level t 3)
theorem Lu{k:Nat}(h:k<3):(MR ((k:Int)+1)).tmod 3=(((k+1)%3:Nat):Int):=by
 rcases (by omega:k=0\/k=1\/k=2)with rfl|rfl|rfl<;>rfl
def Fo(Z:List Int)(t:A3 Int):Prop:=∀i:Nat,i<3->inR (A3.get t (i:Int)) Z.length=true/\sY (gt Z (A3.get t (i:Int)))
theorem I1{Z:List Int}{t:A3 Int}(hi:inR t.e0 Z.length=true/\inR t.e1 Z.length=true/\inR t.e2 Z.length=true)(j:sY (gt Z t.e0)/\sY (gt Z t.e1)/\sY (gt Z t.e2)):Fo Z t:=by
 intro i h;rcases (by omega:i=0\/i=1\/i=2)with rfl|rfl|rfl
 ·exact⟨hi.1,j.1⟩
 ·exact⟨hi.2.1,j.2.1⟩
 ·exact⟨hi.2.2,j.2.2⟩
theorem Ik{n:Nat}{Z:List Int}{level k:Int}(h:inR k Z.length=true/\sY (gt Z k))(a b c d e:Int):df n k a b c d e Z level=some (abv Z level k):=by
 unfold df abv;rw[h.1,wrap64_in (by have:=h.2.1;omega) (by have:=h.2.2;omega)];rfl
def stM(c:List (K2×K2)×List (K2×Bool))(q:K2×K2):List (K2×K2)×List (K2×Bool):=(aW c.1 q.1 q.2,aW c.2 q.2 true)
def stT(Z:List Int)(level:Int)(c:List (K2×K2)×List (K2×Bool))(t:A3 Int):List (K2×K2)×List (K2×Bool):=match seg Z level t with|some q=>stM c q|none=>c
theorem Ga{n:Nat}(I:10<n){t:A3 Int}{Z:List Int}{level:Int}(D:Fo Z t)(a b c d e:Int)(m:List (K2×K2)×List (K2×Bool)):eR n t a b c d e Z level m.1 m.2=some (stT Z level m t):=by
 apply Ok.eq;unfold eR;refine Ok.bd (R:=fun o=>o=Cp Z level t 3) ?_ ?_
 ·refine gO (γ:=S5) (len:=3) (fun s x=>(s.1,s.2.1,s.2.2.1,s.2.2.2.1,s.2.2.2.2,x)) (fun k s=>s=Cp Z level t k) (by omega) (by omega) (c0:=(0,0,0,0,false)) rfl ?_ ?_
  ·rintro again k s hk hs z;have h1:=D k hk;have h2:=D ((k+1)%3) (by omega);refine Ok.cd (fun _=>?_) (fun h=>by have:=dcF h;omega);rw[Lu hk];refine Ok.gd (by rw[iK];omega) (Ok.gd (by rw[iK];omega) ?_);have key:Cp Z level t (k+1)=stp Z level s (A3.get t (k:Int)) (A3.get t (((k+1)%3:Nat):Int)):=by rw[hs];rfl
   have z:∀j,j=stp Z level s (A3.get t (k:Int)) (A3.get t (((k+1)%3:Nat):Int))->Ok (again (j.1,j.2.1,j.2.2.1,j.2.2.2.1,j.2.2.2.2,MR ((k:Int)+1))) _:=fun j h=>z j (h.trans key.symm)
   clear key;have e1:=Ik (n:=n) (level:=level) h1 a b c d e;have e2:=Ik (n:=n) (level:=level) h2 a b c d e;generalize A3.get t (((k+1)%3:Nat):Int)=y at*;generalize A3.get t (k:Int)=x at*;refine Ok.bde rfl (Ok.bd (R:=fun o=>o=(abv Z level x&&!abv Z level y)) (Ok.bde e1 ?_) ?_)
   ·exact Ok.cd (fun h=>Ok.bde e2 (aC.2 (by rw[h];rfl))) (fun h=>aC.2 (by rw[h];rfl))
   ·rintro o rfl;refine Ok.cd (fun h=>Ok.bde rfl (z (mn x y,mx x y,s.2.2.1,s.2.2.2.1,true) (by unfold stp;rw[if_pos h]))) (fun h=>Ok.bde e1 (Ok.cd (fun C=>Ok.bde e2 (Ok.cd (fun p=>Ok.bde rfl (z (s.1,s.2.1,mn x y,mx x y,s.2.2.2.2) (by unfold stp;rw[h,if_neg (by simp),C,p];rfl))) (fun p=>z s (by unfold stp;rw[h,if_neg (by simp),C,p];rfl)))) (fun C=>z s (by unfold stp;rw[h,if_neg (by simp),C];rfl))))
  ·rintro again s rfl;exact Ok.cd (fun h=>by have:=dcT h;omega) (fun _=>aC.2 rfl)
 ·rintro o E;have e:stT Z level m t=(match Bx o with|some q=>stM m q|none=>m):=by unfold stT seg;rw[<-E]
  rw[e];clear E e;obtain⟨f0,f1,t0,t1,cr⟩:=o;cases cr<;>exact aC.2 rfl
def oa(g:aj)(w h:Nat)(level:Int):List (K2×K2):=(jd g w h).filterMap (seg g.Z level)
theorem Ka{g:aj}{w h:Nat}(q:g.Z.any pO=false){t:A3 Int}(z:Gd g w h)(p:t∈jd g w h):Fo g.Z t:=by
 unfold jd at p;rw[List.mem_filter]at p;obtain⟨i0,i1,i2⟩:=xi z p.1;have j:=p.2;unfold gQ at j;simp only[Bool.and_eq_true]at j;have key:∀{k:Int},inR k g.Z.length=true->(gt g.Z k != -2147483648)=true->sY (gt g.Z k):=by
  intro k hk C;have D:=iK.1 hk;obtain⟨m,rfl⟩:∃m:Nat,k=(m:Int):=⟨k.toNat,by omega⟩;have hm:m<g.Z.length:=by omega
  have h1:gt g.Z (m:Int)∈g.Z:=by
   rw[cZ];simp only[List.getD,geT hm,Option.getD_some];exact List.getElem_mem hm
  have:=List.any_eq_false.1 q _ h1;unfold pO rY at this;rw[C]at this;simp at this;exact⟨by omega,by omega⟩
 exact I1 ⟨i0,i1,i2⟩ ⟨key i0 j.1,key i1 j.2.1,key i2 j.2.2⟩
theorem JC{n:Nat}(p:200<n){g:aj}{level:Int}{w h:Nat}(j:Gd g w h)(q:g.Z.any pO=false)(a b c d e:Int):
  bc n g a b c d e g.Z level ([]:List (K2×K2)) ([]:List (K2×Bool))=some ((oa g w h level).foldl stM ([],[])):=by
 apply Ok.eq;unfold bc;refine Ok.bd (R:=fun o=>o=(jd g w h).foldl (stT g.Z level) ([],[])) ?_ ?_
 ·refine Bg (γ:=List (K2×K2)×List (K2×Bool)) p j (fun c x=>(c.1,c.2,x)) (fun t m=>eR n t a b c d e g.Z level m.1 m.2)
   (fun _ _ _=>rfl) (fun _ _ _ _=>rfl) (fun _ _ _ _=>rfl) (fun pre m=>m=pre.foldl (stT g.Z level) ([],[])) rfl fun pre t m z _ hm=>?_
  rw[Ga (by omega) (Ka q j z)];exact aC.2 (by rw[List.foldl_append,<-hm];rfl)
 ·rintro o rfl;refine aC.2 ?_;unfold oa;rw[List.foldl_filterMap];show List.foldl (stT g.Z level) ([],[]) (jd g w h)=_;congr 1;funext x y;unfold stT;cases seg g.Z level y<;>rfl
end Go.L


set_option linter.all false
namespace Go.L
open Go Go.Eng
def dE(t:A3 Int):List (Int×Int):=[(t.e0,t.e1),(t.e1,t.e2),(t.e2,t.e0)]
theorem oe{Z:List Int}{level:Int}{t:A3 Int}{q:K2×K2}(h:seg Z level t=some q):(∃a b,(a,b)∈dE t/\abv Z level a=true/\abv Z level b=false/\q.1=A2.mk (mn a b) (mx a b))/\(∃a b,(a,b)∈dE t/\abv Z level a=false/\abv Z level b=true/\q.2=A2.mk (mn a b) (mx a b)):=by
 have e:Cp Z level t 3=stp Z level (stp Z level (stp Z level (0,0,0,0,false) t.e0 t.e1) t.e1 t.e2) t.e2 t.e0:=rfl;unfold seg at h;rw[e]at h;clear e;have m0:(t.e0,t.e1)∈dE t:=by simp[dE]
 have m1:(t.e1,t.e2)∈dE t:=by simp[dE]
 have m2:(t.e2,t.e0)∈dE t:=by simp[dE]
 cases j:abv Z level t.e0<;>cases m:abv Z level t.e1<;>cases hc:abv Z level t.e2<;>simp[stp,j,m,hc,Bx]at h<;>subst h<;>
  exact⟨by first|exact⟨_,_,m0,j,m,rfl⟩|exact⟨_,_,m1,m,hc,rfl⟩|exact⟨_,_,m2,hc,j,rfl⟩,by first|exact⟨_,_,m0,j,m,rfl⟩|exact⟨_,_,m1,m,hc,rfl⟩|exact⟨_,_,m2,hc,j,rfl⟩⟩
def Rd(t j:A3 Int):Prop:=∀e∈dE t,e∉dE j
theorem xh{w j i:Nat}(hw:w<=64)(m:j<64)(hi:i<64):fh (w:Int) j i=[A3.mk ((j*w+i:Nat):Int) (((j*w+i:Nat):Int)+1) (((j*w+i:Nat):Int)+w+1),A3.mk ((j*w+i:Nat):Int) (((j*w+i:Nat):Int)+w+1) (((j*w+i:Nat):Int)+w)]:=by
 have h1:j*w<=63*64:=Nat.mul_le_mul (by omega) hw;unfold fh;have e:MR ((MR ((j:Int)*(w:Int)))+(i:Int))=((j*w+i:Nat):Int):=by
  rw[<-Int.natCast_mul,wrap64_in (n:=((j*w:Nat):Int)) (by omega) (by omega),wrap64_in (by omega) (by omega),Int.natCast_add]
 rw[e,wrap64_in (n:=((j*w+i:Nat):Int)+1) (by omega) (by omega),wrap64_in (n:=((j*w+i:Nat):Int)+(w:Int)) (by omega) (by omega),wrap64_in (n:=((j*w+i:Nat):Int)+(w:Int)+1) (by omega) (by omega)]
theorem ED{k k' w:Int}(h:k≠k')(hw:2<=w):∀x∈[A3.mk k (k+1) (k+w+1),A3.mk k (k+w+1) (k+w)],∀y∈[A3.mk k' (k'+1) (k'+w+1),A3.mk k' (k'+w+1) (k'+w)],Rd x y:=by
 intro x m y p e he j;simp only[List.mem_cons,List.not_mem_nil,or_false]at m p;rcases m with rfl|rfl<;>rcases p with rfl|rfl<;>simp only[dE,List.mem_cons,List.not_mem_nil,or_false]at he j<;>rcases he with rfl|rfl|rfl<;>rcases j with j|j|j<;>(rw[Prod.mk.injEq]at j;omega)
theorem IS{k w:Int}(hw:2<=w):Rd (A3.mk k (k+1) (k+w+1)) (A3.mk k (k+w+1) (k+w)):=by
 intro e he j;simp only[dE,List.mem_cons,List.not_mem_nil,or_false]at he j;rcases he with rfl|rfl|rfl<;>rcases j with j|j|j<;>(rw[Prod.mk.injEq]at j;omega)
theorem Jr{w h:Nat}(hw:2<=w/\w<=64)(E:2<=h/\h<=64):(cJ (w:Int) (w-1) (h-1)).Pairwise Rd:=by
 unfold cJ A0;refine List.pairwise_flatMap.2 ⟨fun j z=>List.pairwise_flatMap.2 ⟨fun i hi=>?_,?_⟩,?_⟩
 ·rw[List.mem_range]at z hi;rw[xh hw.2 (by omega) (by omega)];exact List.pairwise_cons.2 ⟨fun y m=>by rw[List.mem_singleton]at m;subst m;exact IS (by omega),List.pairwise_singleton _ _⟩
 ·rw[List.mem_range]at z;refine List.pairwise_lt_range.imp_of_mem fun {i i'} hi p q=>?_
  rw[List.mem_range]at hi p;rw[xh hw.2 (by omega) (by omega),xh hw.2 (by omega) (by omega)];exact ED (by omega) (by omega)
 ·refine List.pairwise_lt_range.imp_of_mem fun {j j'} z D q=>?_
  rw[List.mem_range]at z D;intro x C y m;obtain⟨i,hi,C⟩:=List.mem_flatMap.1 C;obtain⟨i',p,m⟩:=List.mem_flatMap.1 m;rw[List.mem_range]at hi p;rw[xh hw.2 (by omega) (by omega)]at C m;have h1:(j+1)*w<=j'*w:=Nat.mul_le_mul_right w q;rw[Nat.add_mul,Nat.one_mul]at h1;exact ED (by omega) (by omega) x C y m
def Rq(q j:K2×K2):Prop:=q.1≠j.1/\q.2≠j.2
theorem Du{a b c d:Int}(h:A2.mk (mn a b) (mx a b)=A2.mk (mn c d) (mx c d)):(a=c/\b=d)\/(a=d/\b=c):=by
 injection h with h1 h2
 unfold mn at h1;unfold mx at h2;split at h1<;>split at h1<;>split at h2<;>split at h2<;>omega
theorem Dt{g:aj}{w h:Nat}(p:Gd g w h)(level:Int):(oa g w h level).Pairwise Rq:=by
 have hp:(jd g w h).Pairwise Rd:=by
  unfold jd;rw[p.W];exact(Jr p.w1 p.h1).filter _
 refine hp.filterMap _ fun t U J q M Y z=>?_
 obtain⟨⟨a,b,m1,N,b1,e1⟩,⟨c,d,m2,c1,d1,e2⟩⟩:=oe M;obtain⟨⟨a',b',C,O,j,D⟩,⟨c',d',E,T,m,I⟩⟩:=oe z;refine⟨fun e=>?_,fun e=>?_⟩
 ·rw[e1,D]at e;rcases Du e with⟨rfl,rfl⟩|⟨rfl,rfl⟩
  ·exact J _ m1 C
  ·rw[N]at j;cases j
 ·rw[e2,I]at e;rcases Du e with⟨rfl,rfl⟩|⟨rfl,rfl⟩
  ·exact J _ m2 E
  ·rw[c1]at m;cases m
section
variable{κ α:Type}[DecidableEq κ]
theorem iZ{x:κ}:∀{l:List (κ×α)},cG l x=true↔∃p∈l,p.1=x
 |[]=>by simp[cG]
 |p::l=>by
  unfold cG;cases h:x==p.1 with
  |true=>
   have h:=eq_of_beq h;exact⟨fun _=>⟨p,by simp,h.symm⟩,fun _=>rfl⟩
  |false=>
   show cG l x=true↔_;rw[iZ (l:=l)];constructor
   ·rintro⟨q,j,e⟩;exact⟨q,List.mem_cons_of_mem _ j,e⟩
   ·rintro⟨q,j,e⟩;rcases List.mem_cons.1 j with rfl|j
    ·rw[e]at h;simp at h
    ·exact⟨q,j,e⟩
theorem xC{x:κ}{v:α}:∀{l:List (κ×α)},cG l x=false->aW l x v=l++[(x,v)]
 |[],_=>rfl
 |p::l,h=>by
  unfold cG at h;unfold aW;cases j:x==p.1 with
  |true=>rw[j]at h;cases h
  |false=>
   rw[j]at h;show p::aW l x v=p::(l++[(x,v)]);rw[xC h]
theorem A4{z v:α}{x y:κ}:∀{l:List (κ×α)},getM z (aW l x v) y=if y=x then v else getM z l y
 |[]=>by
  unfold aW getM getM;by_cases h:y=x
  ·subst h;simp
  ·rw[if_neg h,show(y==x)=false by simpa using h];rfl
 |p::l=>by
  unfold aW;cases j:x==p.1 with
  |true=>
   have j:=eq_of_beq j;show getM z ((x,v)::l) y=_;unfold getM;by_cases h:y=x
   ·subst h;simp
   ·rw[if_neg h];subst j;rw[show(y==p.1)=false by simpa using h];rfl
  |false=>
   show getM z (p::aW l x v) y=_;unfold getM;rw[A4 (l:=l)];cases m:y==p.1 with
   |true=>
    have m:=eq_of_beq m;subst m;have q:¬p.1=x:=fun e=>by rw[e]at j;simp at j
    simp only[cond_true,if_neg q]
   |false=>rfl
theorem qs{z v:α}{x:κ}:∀{l:List (κ×α)},l.Pairwise (fun p q=>p.1≠q.1)->(x,v)∈l->getM z l x=v
 |[],_,h=>by cases h
 |p::l,hp,h=>by
  rw[List.pairwise_cons]at hp;unfold getM;rcases List.mem_cons.1 h with rfl|h
  ·simp
  ·have:(x==p.1)=false:=by
    have:=hp.1 _ h;simpa using fun e=>this e.symm
   rw[this];exact qs hp.2 h
theorem nU{z:α}{x:κ}:∀{l:List (κ×α)},cG l x=true->(x,getM z l x)∈l
 |[],h=>by cases h
 |p::l,h=>by
  unfold cG at h;unfold getM;cases j:x==p.1 with
  |true=>have:=eq_of_beq j;subst this;exact List.mem_cons_self ..
  |false=>rw[j]at h;exact List.mem_cons_of_mem _ (nU h)
end
theorem AT:∀(S pre:List (K2×K2)),(pre++S).Pairwise Rq->S.foldl stM (pre,pre.map fun q=>(q.2,true))=(pre++S,(pre++S).map fun q=>(q.2,true))
 |[],pre,_=>by rw[List.append_nil];rfl
 |q::S,pre,h=>by
  have m:=List.pairwise_append.1 h;have z:cG pre q.1=false:=by
   cases hc:cG pre q.1 with
   |false=>rfl
   |true=>
    obtain⟨p,hp,e⟩:=iZ.1 hc;exact absurd e (m.2.2 p hp q (by simp)).1
  have n2:cG (pre.map fun q=>(q.2,true)) q.2=false:=by
   cases hc:cG (pre.map fun q=>(q.2,true)) q.2 with
   |false=>rfl
   |true=>
    obtain⟨p,hp,e⟩:=iZ.1 hc;obtain⟨p',j,rfl⟩:=List.mem_map.1 hp;exact absurd e (m.2.2 p' j q (by simp)).2
  show S.foldl stM (aW pre q.1 q.2,aW (pre.map fun q=>(q.2,true)) q.2 true)=_;rw[xC z,xC n2];have:=AT S (pre++[q]) (by rw[List.append_assoc];exact h);rw[List.map_append]at this;rw[show pre++q::S=pre++[q]++S by simp];exact this
end Go.L


set_option linter.all false
namespace Go.L
open Go Go.Eng
def dn(D:List (K2×Bool))(x:K2):Bool:=getM false D x
theorem Co(D:List (K2×Bool))(e:K2):dn (aW D e true)=fun x=>x==e||dn D x:=by
 funext x;unfold dn;rw[A4];by_cases h:x=e
 ·subst h;simp
 ·rw[if_neg h,show(x==e)=false by simpa using h];rfl
def W(S:List (K2×K2)):Nat->(K2->Bool)->K2->List K2
 |0,_,_=>[]
 |f+1,D,e=>if D e=true then[]else e::(if cG S e=true then W S f (fun x=>x==e||D x) (getM (A2.mk 0 0) S e)else[])
def lP(D:List (K2×Bool))(l:List K2):List (K2×Bool):=l.foldl (fun d x=>aW d x true) D
theorem nK:∀(l:List K2) (D:List (K2×Bool)) (x:K2),dn (lP D l) x=true↔x∈l\/dn D x=true
 |[],D,x=>by simp[lP]
 |e::l,D,x=>by
  show dn (lP (aW D e true) l) x=true↔_;rw[nK l,Co];simp only[Bool.or_eq_true,beq_iff_eq,List.mem_cons];constructor
  ·rintro(h|h|h)
   ·exact .inl (.inr h)
   ·exact .inl (.inl h)
   ·exact .inr h
  ·rintro((h|h)|h)
   ·exact .inr (.inl h)
   ·exact .inl h
   ·exact .inr (.inr h)
def mu(S:List (K2×K2))(D:K2->Bool):Nat:=(S.filter fun q=>!D q.1).length
theorem Gs(S:List (K2×K2))(D:K2->Bool):mu S D<=S.length:=List.length_filter_le _ _
theorem DL{α:Type}{p p':α->Bool}(h:∀x,p' x=true->p x=true):∀l:List α,(l.filter p').length<=(l.filter p).length
 |[]=>Nat.le_refl _
 |x::l=>by
  have:=DL h l;rw[List.filter_cons,List.filter_cons];by_cases h1:p' x=true
  ·rw[if_pos h1,if_pos (h x h1),List.length_cons,List.length_cons];omega
  ·rw[if_neg h1];split
   ·rw[List.length_cons];omega
   ·exact this
theorem DK{α:Type}{p p':α->Bool}(h:∀x,p' x=true->p x=true){y:α}(h1:p y=true)(h2:p' y=false):∀l:List α,y∈l->(l.filter p').length+1<=(l.filter p).length
 |[],j=>by cases j
 |x::l,j=>by
  rw[List.filter_cons,List.filter_cons];rcases List.mem_cons.1 j with rfl|j
  ·rw[if_neg (by rw[h2];simp),if_pos h1,List.length_cons];have:=DL h l;omega
  ·have:=DK h h1 h2 l j;by_cases m:p' x=true
   ·rw[if_pos m,if_pos (h x m),List.length_cons,List.length_cons];omega
   ·rw[if_neg m];split
    ·rw[List.length_cons];omega
    ·exact this
theorem zi{S:List (K2×K2)}{D:K2->Bool}{e:K2}(h:cG S e=true)(j:D e=false):mu S (fun x=>x==e||D x)+1<=mu S D:=by
 obtain⟨q,m,rfl⟩:=iZ.1 h;refine DK (p:=fun x=>!D x.1) (p':=fun x=>!(x.1==q.1||D x.1)) (fun x z=>?_) (y:=q) (by simp[j]) (by simp) S m
 revert z
 cases D x.1<;>simp
section
variable{S:List (K2×K2)}
theorem BA:∀(f:Nat) (V:K2->Bool) (e x y:K2),mu S V+1<=f->x∈W S f V e->cG S x=true->y=getM (A2.mk 0 0) S x->y∈W S f V e\/V y=true
 |0,V,e,x,y,I,j,_,_=>by cases j
 |f+1,V,e,x,y,I,j,p,C=>by
  unfold W at j ⊢;cases m:V e with
  |true=>rw[if_pos m]at j;cases j
  |false=>
   rw[if_neg (by simp[m])]at j ⊢;have step:cG S e=true->(x∈W S f (fun z=>z==e||V z) (getM (A2.mk 0 0) S e))->y∈W S f (fun z=>z==e||V z) (getM (A2.mk 0 0) S e)\/(y=e\/V y=true):=fun he j=>by
    have:=zi (S:=S) (D:=V) he m;rcases BA f _ _ x y (by omega) j p C with h|h
    ·exact .inl h
    ·simp only[Bool.or_eq_true,beq_iff_eq]at h;exact .inr h
   have fin:cG S e=true->y∈W S f (fun z=>z==e||V z) (getM (A2.mk 0 0) S e)\/(y=e\/V y=true)->y∈(e::(if cG S e=true then W S f (fun x=>x==e||V x) (getM (A2.mk 0 0) S e)else[]))\/V y=true:=fun he h=>by
    rw[if_pos he];rcases h with h|h|h
    ·exact .inl (List.mem_cons_of_mem _ h)
    ·exact .inl (by rw[h];exact List.mem_cons_self ..)
    ·exact .inr h
   rcases List.mem_cons.1 j with rfl|j
   ·refine fin p ?_;have hm:=zi (S:=S) (D:=V) p m;obtain⟨E,rfl⟩:∃E,f=E+1:=⟨f-1,by omega⟩;by_cases q:(y==x||V y)=true
    ·simp only[Bool.or_eq_true,beq_iff_eq]at q;exact .inr q
    ·refine .inl ?_;unfold W;rw[<-C,if_neg q];exact List.mem_cons_self ..
   ·by_cases he:cG S e=true
    ·rw[if_pos he]at j;exact fin he (step he j)
    ·rw[if_neg he]at j;cases j
theorem BM:∀(f:Nat) (V:K2->Bool) (e y:K2),y∈W S f V e->y=e\/∃x∈W S f V e,cG S x=true/\y=getM (A2.mk 0 0) S x
 |0,V,e,y,h=>by cases h
 |f+1,V,e,y,h=>by
  unfold W at h ⊢;by_cases j:V e=true
  ·rw[if_pos j]at h;cases h
  ·rw[if_neg j]at h ⊢;rcases List.mem_cons.1 h with rfl|h
   ·exact .inl rfl
   ·by_cases he:cG S e=true
    ·rw[if_pos he]at h ⊢;rcases BM f _ _ y h with h|⟨x,m,h1,h2⟩
     ·exact .inr ⟨e,List.mem_cons_self ..,he,h⟩
     ·exact .inr ⟨x,List.mem_cons_of_mem _ m,h1,h2⟩
    ·rw[if_neg he]at h;cases h
def Cl(S:List (K2×K2))(D:K2->Bool):Prop:=∀x,cG S x=true->(D x=true↔D (getM (A2.mk 0 0) S x)=true)
theorem DI{D:K2->Bool}(q:Cl S D):∀(f:Nat) (V:K2->Bool) (x:K2),D x=false->W S f (fun z=>V z||D z) x=W S f V x
 |0,_,_,_=>rfl
 |f+1,V,x,p=>by
  unfold W;simp only[p,Bool.or_false];by_cases m:V x=true
  ·rw[if_pos m,if_pos m]
  ·rw[if_neg m,if_neg m];by_cases j:cG S x=true
   ·rw[if_pos j,if_pos j];have C:D (getM (A2.mk 0 0) S x)=false:=by
     cases hc:D (getM (A2.mk 0 0) S x)with
     |false=>rfl
     |true=>rw[(q x j).2 hc]at p;cases p
    have:=DI q f (fun z=>z==x||V z) _ C;rw[<-this];congr 2;funext z;rw[Bool.or_assoc]
   ·rw[if_neg j,if_neg j]
def path(S:List (K2×K2))(e:K2):List K2:=W S 100 (fun _=>false) e
theorem Iy{D:K2->Bool}(j:Cl S D){e:K2}(he:D e=false):W S 100 D e=path S e:=by
 have:=DI j 100 (fun _=>false) e he;unfold path;rw[<-this];rfl
theorem BF{f:Nat}{D:K2->Bool}{e:K2}(j:0<f)(he:D e=false):∃l,W S f D e=e::l:=by
 obtain⟨k,rfl⟩:∃k,f=k+1:=⟨f-1,by omega⟩;unfold W;rw[if_neg (by simp[he])];exact⟨_,rfl⟩
theorem Dn:∀(f:Nat) (D:K2->Bool) (e x:K2),x∈W S f D e->D x=false
 |0,_,_,_,h=>by cases h
 |f+1,D,e,x,h=>by
  unfold W at h;by_cases j:D e=true
  ·rw[if_pos j]at h;cases h
  ·rw[if_neg j]at h;rcases List.mem_cons.1 h with rfl|h
   ·simpa using j
   ·by_cases he:cG S e=true
    ·rw[if_pos he]at h;have:=Dn f _ _ x h;simp only[Bool.or_eq_false_iff]at this;exact this.2
    ·rw[if_neg he]at h;cases h
end
structure Ge (S:List (K2×K2)) (P:K2->Prop):Prop where
 k:∀q∈S,P q.1/\P q.2
theorem Ge.next{S:List (K2×K2)}{P:K2->Prop}(h:Ge S P){e:K2}(he:cG S e=true):P (getM (A2.mk 0 0) S e):=(h.k _ (nU he)).2
noncomputable def crP(g:aj)(level:Int)(e:K2):aw:=(cv 20000 g level e).getD default
theorem Ap{g:aj}{level:Int}{S:List (K2×K2)}{P:K2->Prop}(N:Ge S P)(O:∀e,P e->cv 20000 g level e=some (crP g level e))(Y:S.length<=60){e:K2}(he:P e){closed:Bool}{D:List (K2×Bool)}(I:dn D e=false){out:List ak}(M:out.length<=10000):
  dt 20000 e closed D g.X0 g.Y0 g.Step g.Width g.Height g.Z level S out=some (lP D (W S 100 (dn D) e),out++[ak.mk closed ((W S 100 (dn D) e).map (crP g level))]):=by
 apply Ok.eq;unfold dt;refine Ok.bd (R:=fun o=>o=(lP D (W S 100 (dn D) e),[]++(W S 100 (dn D) e).map (crP g level))) ?_ (by
  rintro o rfl;exact Ok.gd (decide_eq_true (by omega)) (Ok.gd (decide_eq_true (by omega)) (aC.2 (by rw[List.nil_append]))))
 have key:∀(f m:Nat) (D:List (K2×Bool)) (c:List aw) (e:K2),f<m->mu S (dn D)+1<=f->P e->dn D e=false->c.length+f<=10000->
   Ok (aQ m (fun C (z,q,j,p)=>(
  bdO (cv 20000 (aj.mk g.X0 g.Y0 g.Step g.Width g.Height g.Z) level (A2.mk j p)) fun v40=>(
  gdO (decide ((q.length+1)*80<=140737488355328)) (
  gdO (decide (q.length+1<=4611686018427387904)) (
  cdO (!(cG S (A2.mk j p))) (
   some ((aW z (A2.mk j p) true,q++[v40]))
  ) (
   cdO (getM false (aW z (A2.mk j p) true) (getM (A2.mk 0 0:A2 Int) S (A2.mk j p))) (
    some ((aW z (A2.mk j p) true,q++[v40]))
   ) (
    C (aW z (A2.mk j p) true,q++[v40],(getM (A2.mk 0 0:A2 Int) S (A2.mk j p)).e0,(getM (A2.mk 0 0:A2 Int) S (A2.mk j p)).e1)
   ))))))) (D,c,e.e0,e.e1)) fun o=>o=(lP D (W S f (dn D) e),c++(W S f (dn D) e).map (crP g level)):=by
  intro f;induction f with
  |zero=>intro m D c e _ h;omega
  |succ f T=>
   intro m D c e hm hf he I hc;obtain⟨m,rfl⟩:∃k,m=k+1:=⟨m-1,by omega⟩;rw[x8];dsimp only;have U:W S (f+1) (dn D) e=e::(if cG S e=true then W S f (dn (aW D e true)) (getM (A2.mk 0 0) S e)else[]):=by
    rw[Co]
    conv=>lhs;unfold W
    rw[if_neg (by simp[I])]
   rw[U];refine Ok.bde (O e he) (Ok.gd (decide_eq_true (by omega)) (Ok.gd (decide_eq_true (by omega)) ?_));refine Ok.cd (fun h=>aC.2 ?_) (fun h=>?_)
   ·have h:cG S e=false:=by simpa using h
    rw[if_neg (by rw[h];simp)];rfl
   ·have h:cG S e=true:=by simpa using h
    rw[if_pos h];have J:=zi (S:=S) h I;rw[<-Co]at J;refine Ok.cd (fun E=>aC.2 ?_) (fun E=>?_)
    ·have E:dn (aW D e true) (getM (A2.mk 0 0) S e)=true:=E;rw[show W S f (dn (aW D e true)) (getM (A2.mk 0 0) S e)=[]by cases f<;>unfold W<;>simp[E]];rfl
    ·have E:dn (aW D e true) (getM (A2.mk 0 0) S e)=false:=E;refine(T m (aW D e true) (c++[crP g level e]) _ (by omega) (by omega) (N.next h) E (by rw[List.length_append,List.length_singleton];omega)).mono fun o M=>M.trans ?_
     rw[List.map_cons,List.append_assoc];rfl
 have:=Gs S (dn D);exact key 100 20000 D [] e (by omega) (by omega) he I (by simp)
end Go.L

