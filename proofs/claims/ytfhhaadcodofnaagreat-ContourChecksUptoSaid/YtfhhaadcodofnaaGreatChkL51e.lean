import Derived.Test.YtfhhaadcodofnaaGreatChkL51c
set_option linter.all false
namespace Go.L
open Go Go.Eng
def dE(t:A3 Int):List (Int×Int):=[(t.e0,t.e1),(t.e1,t.e2),(t.e2,t.e0)]
theorem yB{Z:List Int}{level:Int}{t:A3 Int}{q:K2×K2}(h:seg Z level t=some q):(∃a b,(a,b)∈dE t/\abv Z level a=true/\abv Z level b=false/\q.1=A2.mk (mn a b) (mx a b))/\(∃a b,(a,b)∈dE t/\abv Z level a=false/\abv Z level b=true/\q.2=A2.mk (mn a b) (mx a b)):=by
 have e:AX Z level t 3=stp Z level (stp Z level (stp Z level (0,0,0,0,false) t.e0 t.e1) t.e1 t.e2) t.e2 t.e0:=rfl;unfold seg at h;rw[e]at h;clear e;have m0:(t.e0,t.e1)∈dE t:=by simp[dE]
 have m1:(t.e1,t.e2)∈dE t:=by simp[dE]
 have m2:(t.e2,t.e0)∈dE t:=by simp[dE]
 cases ha:abv Z level t.e0<;>cases hb:abv Z level t.e1<;>cases hc:abv Z level t.e2<;>simp[stp,ha,hb,hc,HA]at h<;>subst h<;>
  exact⟨by first|exact⟨_,_,m0,ha,hb,rfl⟩|exact⟨_,_,m1,hb,hc,rfl⟩|exact⟨_,_,m2,hc,ha,rfl⟩,by first|exact⟨_,_,m0,ha,hb,rfl⟩|exact⟨_,_,m1,hb,hc,rfl⟩|exact⟨_,_,m2,hc,ha,rfl⟩⟩
def Rd(t j:A3 Int):Prop:=∀e∈dE t,e∉dE j
theorem DH{w j i:Nat}(hw:w<=64)(m:j<64)(q:i<64):jB (w:Int) j i=[A3.mk ((j*w+i:Nat):Int) (((j*w+i:Nat):Int)+1) (((j*w+i:Nat):Int)+w+1),A3.mk ((j*w+i:Nat):Int) (((j*w+i:Nat):Int)+w+1) (((j*w+i:Nat):Int)+w)]:=by
 have h1:j*w<=63*64:=Nat.mul_le_mul (by omega) hw;unfold jB;have e:Ki ((Ki ((j:Int)*(w:Int)))+(i:Int))=((j*w+i:Nat):Int):=by
  rw[<-Int.natCast_mul,wrap64_in (n:=((j*w:Nat):Int)) (by omega) (by omega),wrap64_in (by omega) (by omega),Int.natCast_add]
 rw[e,wrap64_in (n:=((j*w+i:Nat):Int)+1) (by omega) (by omega),wrap64_in (n:=((j*w+i:Nat):Int)+(w:Int)) (by omega) (by omega),wrap64_in (n:=((j*w+i:Nat):Int)+(w:Int)+1) (by omega) (by omega)]
theorem Gu{k k' w:Int}(h:k≠k')(hw:2<=w):∀x∈[A3.mk k (k+1) (k+w+1),A3.mk k (k+w+1) (k+w)],∀y∈[A3.mk k' (k'+1) (k'+w+1),A3.mk k' (k'+w+1) (k'+w)],Rd x y:=by
 intro x hx y m e he j;simp only[List.mem_cons,List.not_mem_nil,or_false]at hx m;rcases hx with rfl|rfl<;>rcases m with rfl|rfl<;>simp only[dE,List.mem_cons,List.not_mem_nil,or_false]at he j<;>rcases he with rfl|rfl|rfl<;>rcases j with j|j|j<;>(rw[Prod.mk.injEq]at j;omega)
theorem Ih{k w:Int}(hw:2<=w):Rd (A3.mk k (k+1) (k+w+1)) (A3.mk k (k+w+1) (k+w)):=by
 intro e he j;simp only[dE,List.mem_cons,List.not_mem_nil,or_false]at he j;rcases he with rfl|rfl|rfl<;>rcases j with j|j|j<;>(rw[Prod.mk.injEq]at j;omega)
theorem IS{w h:Nat}(hw:2<=w/\w<=64)(N:2<=h/\h<=64):(oq (w:Int) (w-1) (h-1)).Pairwise Rd:=by
 unfold oq Eb;refine List.pairwise_flatMap.2 ⟨fun j D=>List.pairwise_flatMap.2 ⟨fun i z=>?_,?_⟩,?_⟩
 ·rw[List.mem_range]at D z;rw[DH hw.2 (by omega) (by omega)];exact List.pairwise_cons.2 ⟨fun y m=>by rw[List.mem_singleton]at m;subst m;exact Ih (by omega),List.pairwise_singleton _ _⟩
 ·rw[List.mem_range]at D;refine List.pairwise_lt_range.imp_of_mem fun {i I} z q C=>?_
  rw[List.mem_range]at z q;rw[DH hw.2 (by omega) (by omega),DH hw.2 (by omega) (by omega)];exact Gu (by omega) (by omega)
 ·refine List.pairwise_lt_range.imp_of_mem fun {j J} D E C=>?_
  rw[List.mem_range]at D E;intro x hx y m;obtain⟨i,z,hx⟩:=List.mem_flatMap.1 hx;obtain⟨I,q,m⟩:=List.mem_flatMap.1 m;rw[List.mem_range]at z q;rw[DH hw.2 (by omega) (by omega)]at hx m;have h1:(j+1)*w<=J*w:=Nat.mul_le_mul_right w C;rw[Nat.add_mul,Nat.one_mul]at h1;exact Gu (by omega) (by omega) x hx y m
def Rq(q j:K2×K2):Prop:=q.1≠j.1/\q.2≠j.2
theorem C9{a b c d:Int}(h:A2.mk (mn a b) (mx a b)=A2.mk (mn c d) (mx c d)):(a=c/\b=d)\/(a=d/\b=c):=by
 injection h with h1 h2
 unfold mn at h1;unfold mx at h2;split at h1<;>split at h1<;>split at h2<;>split at h2<;>omega
theorem AY{g:an}{w h:Nat}(z:Gd g w h)(level:Int):(tG g w h level).Pairwise Rq:=by
 have hp:(lU g w h).Pairwise Rd:=by
  unfold lU;rw[z.W];exact(IS z.w1 z.h1).filter _
 refine hp.filterMap _ fun t t' N q O q' C=>?_
 obtain⟨⟨a,b,m1,T,b1,e1⟩,⟨c,d,m2,c1,d1,e2⟩⟩:=yB O;obtain⟨⟨a',b',D,U,j,E⟩,⟨c',d',I,Y,m,J⟩⟩:=yB C;refine⟨fun e=>?_,fun e=>?_⟩
 ·rw[e1,E]at e;rcases C9 e with⟨rfl,rfl⟩|⟨rfl,rfl⟩
  ·exact N _ m1 D
  ·rw[T]at j;cases j
 ·rw[e2,J]at e;rcases C9 e with⟨rfl,rfl⟩|⟨rfl,rfl⟩
  ·exact N _ m2 I
  ·rw[c1]at m;cases m
section
variable{κ α:Type}[DecidableEq κ]
theorem jA{x:κ}:∀{l:List (κ×α)},de l x=true↔∃p∈l,p.1=x
 |[]=>by simp[de]
 |p::l=>by
  unfold de;cases h:x==p.1 with
  |true=>
   have h:=eq_of_beq h;exact⟨fun _=>⟨p,by simp,h.symm⟩,fun _=>rfl⟩
  |false=>
   show de l x=true↔_;rw[jA (l:=l)];constructor
   ·rintro⟨q,j,e⟩;exact⟨q,List.mem_cons_of_mem _ j,e⟩
   ·rintro⟨q,j,e⟩;rcases List.mem_cons.1 j with rfl|j
    ·rw[e]at h;simp at h
    ·exact⟨q,j,e⟩
theorem yj{x:κ}{v:α}:∀{l:List (κ×α)},de l x=false->dL l x v=l++[(x,v)]
 |[],_=>rfl
 |p::l,h=>by
  unfold de at h;unfold dL;cases hx:x==p.1 with
  |true=>rw[hx]at h;cases h
  |false=>
   rw[hx]at h;show p::dL l x v=p::(l++[(x,v)]);rw[yj h]
theorem BG{z v:α}{x y:κ}:∀{l:List (κ×α)},getM z (dL l x v) y=if y=x then v else getM z l y
 |[]=>by
  unfold dL getM getM;by_cases h:y=x
  ·subst h;simp
  ·rw[if_neg h,show(y==x)=false by simpa using h];rfl
 |p::l=>by
  unfold dL;cases hx:x==p.1 with
  |true=>
   have hx:=eq_of_beq hx;show getM z ((x,v)::l) y=_;unfold getM;by_cases h:y=x
   ·subst h;simp
   ·rw[if_neg h];subst hx;rw[show(y==p.1)=false by simpa using h];rfl
  |false=>
   show getM z (p::dL l x v) y=_;unfold getM;rw[BG (l:=l)];cases j:y==p.1 with
   |true=>
    have j:=eq_of_beq j;subst j;have m:¬p.1=x:=fun e=>by rw[e]at hx;simp at hx
    simp only[cond_true,if_neg m]
   |false=>rfl
theorem xL{z v:α}{x:κ}:∀{l:List (κ×α)},l.Pairwise (fun p q=>p.1≠q.1)->(x,v)∈l->getM z l x=v
 |[],_,h=>by cases h
 |p::l,hp,h=>by
  rw[List.pairwise_cons]at hp;unfold getM;rcases List.mem_cons.1 h with rfl|h
  ·simp
  ·have:(x==p.1)=false:=by
    have:=hp.1 _ h;simpa using fun e=>this e.symm
   rw[this];exact xL hp.2 h
theorem sc{z:α}{x:κ}:∀{l:List (κ×α)},de l x=true->(x,getM z l x)∈l
 |[],h=>by cases h
 |p::l,h=>by
  unfold de at h;unfold getM;cases hx:x==p.1 with
  |true=>have:=eq_of_beq hx;subst this;exact List.mem_cons_self ..
  |false=>rw[hx]at h;exact List.mem_cons_of_mem _ (sc h)
end
theorem xN:∀(S pre:List (K2×K2)),(pre++S).Pairwise Rq->S.foldl stM (pre,pre.map fun q=>(q.2,true))=(pre++S,(pre++S).map fun q=>(q.2,true))
 |[],pre,_=>by rw[List.append_nil];rfl
 |q::S,pre,h=>by
  have hd:=List.pairwise_append.1 h;have m:de pre q.1=false:=by
   cases hc:de pre q.1 with
   |false=>rfl
   |true=>
    obtain⟨p,hp,e⟩:=jA.1 hc;exact absurd e (hd.2.2 p hp q (by simp)).1
  have z:de (pre.map fun q=>(q.2,true)) q.2=false:=by
   cases hc:de (pre.map fun q=>(q.2,true)) q.2 with
   |false=>rfl
   |true=>
    obtain⟨p,hp,e⟩:=jA.1 hc;obtain⟨p',j,rfl⟩:=List.mem_map.1 hp;exact absurd e (hd.2.2 p' j q (by simp)).2
  show S.foldl stM (dL pre q.1 q.2,dL (pre.map fun q=>(q.2,true)) q.2 true)=_;rw[yj m,yj z];have:=xN S (pre++[q]) (by rw[List.append_assoc];exact h);rw[List.map_append]at this;rw[show pre++q::S=pre++[q]++S by simp];exact this
end Go.L


set_option linter.all false
namespace Go.L
open Go Go.Eng
def dn(D:List (K2×Bool))(x:K2):Bool:=getM false D x
theorem yI(D:List (K2×Bool))(e:K2):dn (dL D e true)=fun x=>x==e||dn D x:=by
 funext x;unfold dn;rw[BG];by_cases h:x=e
 ·subst h;simp
 ·rw[if_neg h,show(x==e)=false by simpa using h];rfl
def W(S:List (K2×K2)):Nat->(K2->Bool)->K2->List K2
 |0,_,_=>[]
 |f+1,D,e=>if D e=true then[]else e::(if de S e=true then W S f (fun x=>x==e||D x) (getM (A2.mk 0 0) S e)else[])
def kD(D:List (K2×Bool))(l:List K2):List (K2×Bool):=l.foldl (fun d x=>dL d x true) D
theorem qg:∀(l:List K2) (D:List (K2×Bool)) (x:K2),dn (kD D l) x=true↔x∈l\/dn D x=true
 |[],D,x=>by simp[kD]
 |e::l,D,x=>by
  show dn (kD (dL D e true) l) x=true↔_;rw[qg l,yI];simp only[Bool.or_eq_true,beq_iff_eq,List.mem_cons];constructor
  ·rintro(h|h|h)
   ·exact .inl (.inr h)
   ·exact .inl (.inl h)
   ·exact .inr h
  ·rintro((h|h)|h)
   ·exact .inr (.inl h)
   ·exact .inl h
   ·exact .inr (.inr h)
def mu(S:List (K2×K2))(D:K2->Bool):Nat:=(S.filter fun q=>!D q.1).length
theorem Dv(S:List (K2×K2))(D:K2->Bool):mu S D<=S.length:=List.length_filter_le _ _
theorem Dj{α:Type}{p p':α->Bool}(h:∀x,p' x=true->p x=true):∀l:List α,(l.filter p').length<=(l.filter p).length
 |[]=>Nat.le_refl _
 |x::l=>by
  have:=Dj h l;rw[List.filter_cons,List.filter_cons];by_cases h1:p' x=true
  ·rw[if_pos h1,if_pos (h x h1),List.length_cons,List.length_cons];omega
  ·rw[if_neg h1];split
   ·rw[List.length_cons];omega
   ·exact this
theorem Db{α:Type}{p p':α->Bool}(h:∀x,p' x=true->p x=true){y:α}(h1:p y=true)(h2:p' y=false):∀l:List α,y∈l->(l.filter p').length+1<=(l.filter p).length
 |[],j=>by cases j
 |x::l,j=>by
  rw[List.filter_cons,List.filter_cons];rcases List.mem_cons.1 j with rfl|j
  ·rw[if_neg (by rw[h2];simp),if_pos h1,List.length_cons];have:=Dj h l;omega
  ·have:=Db h h1 h2 l j;by_cases m:p' x=true
   ·rw[if_pos m,if_pos (h x m),List.length_cons,List.length_cons];omega
   ·rw[if_neg m];split
    ·rw[List.length_cons];omega
    ·exact this
theorem xB{S:List (K2×K2)}{D:K2->Bool}{e:K2}(h:de S e=true)(hd:D e=false):mu S (fun x=>x==e||D x)+1<=mu S D:=by
 obtain⟨q,j,rfl⟩:=jA.1 h;refine Db (p:=fun x=>!D x.1) (p':=fun x=>!(x.1==q.1||D x.1)) (fun x hx=>?_) (y:=q) (by simp[hd]) (by simp) S j
 revert hx
 cases D x.1<;>simp
section
variable{S:List (K2×K2)}
theorem Cu:∀(f:Nat) (V:K2->Bool) (e x y:K2),mu S V+1<=f->x∈W S f V e->de S x=true->y=getM (A2.mk 0 0) S x->y∈W S f V e\/V y=true
 |0,V,e,x,y,E,hx,_,_=>by cases hx
 |f+1,V,e,x,y,E,hx,m,q=>by
  unfold W at hx ⊢;cases j:V e with
  |true=>rw[if_pos j]at hx;cases hx
  |false=>
   rw[if_neg (by simp[j])]at hx ⊢;have step:de S e=true->(x∈W S f (fun z=>z==e||V z) (getM (A2.mk 0 0) S e))->y∈W S f (fun z=>z==e||V z) (getM (A2.mk 0 0) S e)\/(y=e\/V y=true):=fun he hx=>by
    have:=xB (S:=S) (D:=V) he j;rcases Cu f _ _ x y (by omega) hx m q with h|h
    ·exact .inl h
    ·simp only[Bool.or_eq_true,beq_iff_eq]at h;exact .inr h
   have fin:de S e=true->y∈W S f (fun z=>z==e||V z) (getM (A2.mk 0 0) S e)\/(y=e\/V y=true)->y∈(e::(if de S e=true then W S f (fun x=>x==e||V x) (getM (A2.mk 0 0) S e)else[]))\/V y=true:=fun he h=>by
    rw[if_pos he];rcases h with h|h|h
    ·exact .inl (List.mem_cons_of_mem _ h)
    ·exact .inl (by rw[h];exact List.mem_cons_self ..)
    ·exact .inr h
   rcases List.mem_cons.1 hx with rfl|hx
   ·refine fin m ?_;have hm:=xB (S:=S) (D:=V) m j;obtain⟨C,rfl⟩:∃C,f=C+1:=⟨f-1,by omega⟩;by_cases hd:(y==x||V y)=true
    ·simp only[Bool.or_eq_true,beq_iff_eq]at hd;exact .inr hd
    ·refine .inl ?_;unfold W;rw[<-q,if_neg hd];exact List.mem_cons_self ..
   ·by_cases he:de S e=true
    ·rw[if_pos he]at hx;exact fin he (step he hx)
    ·rw[if_neg he]at hx;cases hx
theorem CP:∀(f:Nat) (V:K2->Bool) (e y:K2),y∈W S f V e->y=e\/∃x∈W S f V e,de S x=true/\y=getM (A2.mk 0 0) S x
 |0,V,e,y,h=>by cases h
 |f+1,V,e,y,h=>by
  unfold W at h ⊢;by_cases j:V e=true
  ·rw[if_pos j]at h;cases h
  ·rw[if_neg j]at h ⊢;rcases List.mem_cons.1 h with rfl|h
   ·exact .inl rfl
   ·by_cases he:de S e=true
    ·rw[if_pos he]at h ⊢;rcases CP f _ _ y h with h|⟨x,hx,h1,h2⟩
     ·exact .inr ⟨e,List.mem_cons_self ..,he,h⟩
     ·exact .inr ⟨x,List.mem_cons_of_mem _ hx,h1,h2⟩
    ·rw[if_neg he]at h;cases h
def Cl(S:List (K2×K2))(D:K2->Bool):Prop:=∀x,de S x=true->(D x=true↔D (getM (A2.mk 0 0) S x)=true)
theorem DL{D:K2->Bool}(q:Cl S D):∀(f:Nat) (V:K2->Bool) (x:K2),D x=false->W S f (fun z=>V z||D z) x=W S f V x
 |0,_,_,_=>rfl
 |f+1,V,x,hx=>by
  unfold W;simp only[hx,Bool.or_false];by_cases m:V x=true
  ·rw[if_pos m,if_pos m]
  ·rw[if_neg m,if_neg m];by_cases j:de S x=true
   ·rw[if_pos j,if_pos j];have C:D (getM (A2.mk 0 0) S x)=false:=by
     cases hc:D (getM (A2.mk 0 0) S x)with
     |false=>rfl
     |true=>rw[(q x j).2 hc]at hx;cases hx
    have:=DL q f (fun z=>z==x||V z) _ C;rw[<-this];congr 2;funext z;rw[Bool.or_assoc]
   ·rw[if_neg j,if_neg j]
def path(S:List (K2×K2))(e:K2):List K2:=W S 100 (fun _=>false) e
theorem Iy{D:K2->Bool}(j:Cl S D){e:K2}(he:D e=false):W S 100 D e=path S e:=by
 have:=DL j 100 (fun _=>false) e he;unfold path;rw[<-this];rfl
theorem AM{f:Nat}{D:K2->Bool}{e:K2}(j:0<f)(he:D e=false):∃l,W S f D e=e::l:=by
 obtain⟨k,rfl⟩:∃k,f=k+1:=⟨f-1,by omega⟩;unfold W;rw[if_neg (by simp[he])];exact⟨_,rfl⟩
theorem Gj:∀(f:Nat) (D:K2->Bool) (e:K2),(W S f D e).length<=f
 |0,_,_=>by simp[W]
 |f+1,D,e=>by
  unfold W;split
  ·simp
  ·split
   ·have:=Gj f (fun x=>x==e||D x) (getM (A2.mk 0 0) S e);simp;omega
   ·simp
theorem zI:∀(f:Nat) (D:K2->Bool) (e x:K2),x∈W S f D e->D x=false
 |0,_,_,_,h=>by cases h
 |f+1,D,e,x,h=>by
  unfold W at h;by_cases j:D e=true
  ·rw[if_pos j]at h;cases h
  ·rw[if_neg j]at h;rcases List.mem_cons.1 h with rfl|h
   ·simpa using j
   ·by_cases he:de S e=true
    ·rw[if_pos he]at h;have:=zI f _ _ x h;simp only[Bool.or_eq_false_iff]at this;exact this.2
    ·rw[if_neg he]at h;cases h
end
structure Ge (S:List (K2×K2)) (P:K2->Prop):Prop where
 k:∀q∈S,P q.1/\P q.2
theorem Ge.next{S:List (K2×K2)}{P:K2->Prop}(h:Ge S P){e:K2}(he:de S e=true):P (getM (A2.mk 0 0) S e):=(h.k _ (sc he)).2
theorem CC{S:List (K2×K2)}{P:K2->Prop}(h:Ge S P):∀(f:Nat) (D:K2->Bool) (e:K2),P e->∀x∈W S f D e,P x
 |0,_,_,_,x,hx=>by cases hx
 |f+1,D,e,he,x,hx=>by
  unfold W at hx;split at hx
  ·cases hx
  ·rcases List.mem_cons.1 hx with rfl|hx
   ·exact he
   ·split at hx
    ·rename_i j;exact CC h f _ _ (h.next j) x hx
    ·cases hx
noncomputable def crP(g:an)(level:Int)(e:K2):ah:=(dh 20000 g level e).getD default
noncomputable def crR(g:an)(level:Int)(e:K2):ah:=(bX 20000 g level e).getD default
theorem BH{g:an}{level:Int}{S:List (K2×K2)}{P:K2->Prop}(O:Ge S P)(T:∀e,P e->dh 20000 g level e=some (crP g level e))(hl:S.length<=60){e:K2}(he:P e){closed:Bool}{D:List (K2×Bool)}(hd:dn D e=false){out:List aa}(N:out.length<=10000):
  eR 20000 e closed D g.X0 g.Y0 g.Step g.Width g.Height g.Z level S out=some (kD D (W S 100 (dn D) e),out++[aa.mk closed ((W S 100 (dn D) e).map (crP g level))]):=by
 apply Ok.eq;unfold eR;refine Ok.bd (R:=fun o=>o=(kD D (W S 100 (dn D) e),[]++(W S 100 (dn D) e).map (crP g level))) ?_ (by
  rintro o rfl;exact Ok.gd (decide_eq_true (by omega)) (Ok.gd (decide_eq_true (by omega)) (aw.2 (by rw[List.nil_append]))))
 have key:∀(f m:Nat) (D:List (K2×Bool)) (c:List ah) (e:K2),f<m->mu S (dn D)+1<=f->P e->dn D e=false->c.length+f<=10000->
   Ok (aP m (fun E (C,z,j,q)=>(
  bdO (dh 20000 (an.mk g.X0 g.Y0 g.Step g.Width g.Height g.Z) level (A2.mk j q)) fun v40=>(
  gdO (decide ((z.length+1)*80<=140737488355328)) (
  gdO (decide (z.length+1<=4611686018427387904)) (
  cdO (!(de S (A2.mk j q))) (
   some ((dL C (A2.mk j q) true,z++[v40]))
  ) (
   cdO (getM false (dL C (A2.mk j q) true) (getM (A2.mk 0 0:A2 Int) S (A2.mk j q))) (
    some ((dL C (A2.mk j q) true,z++[v40]))
   ) (
    E (dL C (A2.mk j q) true,z++[v40],(getM (A2.mk 0 0:A2 Int) S (A2.mk j q)).e0,(getM (A2.mk 0 0:A2 Int) S (A2.mk j q)).e1)
   ))))))) (D,c,e.e0,e.e1)) fun o=>o=(kD D (W S f (dn D) e),c++(W S f (dn D) e).map (crP g level)):=by
  intro f;induction f with
  |zero=>intro m D c e _ h;omega
  |succ f U=>
   intro m D c e hm hf he hd hc;obtain⟨m,rfl⟩:∃k,m=k+1:=⟨m-1,by omega⟩;rw[lX];dsimp only;have Y:W S (f+1) (dn D) e=e::(if de S e=true then W S f (dn (dL D e true)) (getM (A2.mk 0 0) S e)else[]):=by
    rw[yI]
    conv=>lhs;unfold W
    rw[if_neg (by simp[hd])]
   rw[Y];refine Ok.bde (T e he) (Ok.gd (decide_eq_true (by omega)) (Ok.gd (decide_eq_true (by omega)) ?_));refine Ok.cd (fun h=>aw.2 ?_) (fun h=>?_)
   ·have h:de S e=false:=by simpa using h
    rw[if_neg (by rw[h];simp)];rfl
   ·have h:de S e=true:=by simpa using h
    rw[if_pos h];have J:=xB (S:=S) h hd;rw[<-yI]at J;refine Ok.cd (fun I=>aw.2 ?_) (fun I=>?_)
    ·have I:dn (dL D e true) (getM (A2.mk 0 0) S e)=true:=I;rw[show W S f (dn (dL D e true)) (getM (A2.mk 0 0) S e)=[]by cases f<;>unfold W<;>simp[I]];rfl
    ·have I:dn (dL D e true) (getM (A2.mk 0 0) S e)=false:=I;refine(U m (dL D e true) (c++[crP g level e]) _ (by omega) (by omega) (O.next h) I (by rw[List.length_append,List.length_singleton];omega)).mono fun o N=>N.trans ?_
     rw[List.map_cons,List.append_assoc];rfl
 have:=Dv S (dn D);exact key 100 20000 D [] e (by omega) (by omega) he hd (by simp)
theorem Bv{g:an}{level:Int}{S:List (K2×K2)}{P:K2->Prop}(O:Ge S P)(T:∀e,P e->bX 20000 g level e=some (crR g level e))(hl:S.length<=60){e:K2}(he:P e){closed:Bool}{D:List (K2×Bool)}{out:List aa}(N:out.length<=10000):
  dj 20000 e closed D S g.X0 g.Y0 g.Step g.Width g.Height g.Z level out=some (kD D (W S 100 (dn D) e),out++[aa.mk closed ((W S 100 (dn D) e).map (crR g level))]):=by
 apply Ok.eq;unfold dj;refine Ok.bd (R:=fun o=>o=(kD D (W S 100 (dn D) e),[]++(W S 100 (dn D) e).map (crR g level))) ?_ (by
  rintro o rfl;exact Ok.gd (decide_eq_true (by omega)) (Ok.gd (decide_eq_true (by omega)) (aw.2 (by rw[List.nil_append]))))
 have key:∀(f m:Nat) (D:List (K2×Bool)) (c:List ah) (e:K2),f+1<m->mu S (dn D)+1<=f->P e->c.length+f<=10000->
   Ok (aP m (fun E (C,j,q,z,I)=>(
  cdO I (
   cdO (!(getM false C (A2.mk j q))) (
    bdO (bX 20000 (an.mk g.X0 g.Y0 g.Step g.Width g.Height g.Z) level (A2.mk j q)) fun v44=>(
    gdO (decide ((z.length+1)*80<=140737488355328)) (
    gdO (decide (z.length+1<=4611686018427387904)) (
    E (dL C (A2.mk j q) true,(getM (A2.mk 0 0:A2 Int) S (A2.mk j q)).e0,(getM (A2.mk 0 0:A2 Int) S (A2.mk j q)).e1,z++[v44],de S (A2.mk j q))
    )))
   ) (
    some ((C,z))
   )
  ) (
   some ((C,z))
  ))) (D,e.e0,e.e1,c,true)) fun o=>o=(kD D (W S f (dn D) e),c++(W S f (dn D) e).map (crR g level)):=by
  intro f;induction f with
  |zero=>intro m D c e _ h;omega
  |succ f U=>
   intro m D c e hm hf he hc;obtain⟨m,rfl⟩:∃k,m=k+1:=⟨m-1,by omega⟩;rw[lX];dsimp only;refine Ok.cd (fun _=>Ok.cd (fun hd=>?_) (fun hd=>aw.2 ?_)) (fun h=>by cases h)
   ·have hd:dn D e=false:=by
     have:(!dn D e)=true:=hd;simpa using this
    have Y:W S (f+1) (dn D) e=e::(if de S e=true then W S f (dn (dL D e true)) (getM (A2.mk 0 0) S e)else[]):=by
     rw[yI]
     conv=>lhs;unfold W
     rw[if_neg (by simp[hd])]
    rw[Y];refine Ok.bde (T e he) (Ok.gd (decide_eq_true (by omega)) (Ok.gd (decide_eq_true (by omega)) ?_));cases h:de S e with
    |true=>
     have J:=xB (S:=S) h hd;rw[<-yI]at J;show Ok (aP m _ (dL D e true,(getM (A2.mk 0 0) S e).e0,(getM (A2.mk 0 0) S e).e1,c++[crR g level e],true)) _;rw[if_pos rfl];refine(U m (dL D e true) (c++[crR g level e]) _ (by omega) (by omega) (O.next h) (by rw[List.length_append,List.length_singleton];omega)).mono fun o N=>N.trans ?_
     rw[List.map_cons,List.append_assoc];rfl
    |false=>
     show Ok (aP m _ (dL D e true,(getM (A2.mk 0 0) S e).e0,(getM (A2.mk 0 0) S e).e1,c++[crR g level e],false)) _;obtain⟨m,rfl⟩:∃k,m=k+1:=⟨m-1,by omega⟩;rw[if_neg (by simp),lX];exact Ok.cd (fun h=>by cases h) (fun _=>aw.2 rfl)
   ·have hd:dn D e=true:=by
     have:(!dn D e)=false:=hd;simpa using this
    rw[show W S (f+1) (dn D) e=[]by unfold W;rw[if_pos hd]];show(D,c)=(D,c++[]);rw[List.append_nil]
 have:=Dv S (dn D);exact key 100 20000 D [] e (by omega) (by omega) he (by simp)
end Go.L

