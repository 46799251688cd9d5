import Derived.Test.YtlhnaccgnegjdaaGreatNesL51d
import Derived.Test.YtlhnaccgnegjdaaGreatNesL51v
set_option linter.all false
namespace Go.L
open Go Go.Eng
def dn(D:List (K2×Bool))(x:K2):Bool:=getM false D x
theorem yj(D:List (K2×Bool))(e:K2):dn (dm D e true)=fun x=>x==e||dn D x:=by
 funext x;unfold dn;rw[AD];by_cases h:x=e
 ·subst h;simp
 ·rw[if_neg h,show(x==e)=false by simpa using h];rfl
def W(S:List (K2×K2)):Nat->(K2->Bool)->K2->List K2
 |0,_,_=>[]
 |f+1,D,e=>if D e=true then[]else e::(if dX S e=true then W S f (fun x=>x==e||D x) (getM (A2.mk 0 0) S e)else[])
def jX(D:List (K2×Bool))(l:List K2):List (K2×Bool):=l.foldl (fun d x=>dm d x true) D
theorem qo:∀(l:List K2) (D:List (K2×Bool)) (x:K2),dn (jX D l) x=true↔x∈l\/dn D x=true
 |[],D,x=>by simp[jX]
 |e::l,D,x=>by
  show dn (jX (dm D e true) l) x=true↔_;rw[qo l,yj];simp only[Bool.or_eq_true,beq_iff_eq,List.mem_cons];constructor
  ·rintro(h|h|h)
   ·exact .inl (.inr h)
   ·exact .inl (.inl h)
   ·exact .inr h
  ·rintro((h|h)|h)
   ·exact .inr (.inl h)
   ·exact .inl h
   ·exact .inr (.inr h)
def mu(S:List (K2×K2))(D:K2->Bool):Nat:=(S.filter fun q=>!D q.1).length
theorem Bg(S:List (K2×K2))(D:K2->Bool):mu S D<=S.length:=List.length_filter_le _ _
theorem C8{α:Type}{p p':α->Bool}(h:∀x,p' x=true->p x=true):∀l:List α,(l.filter p').length<=(l.filter p).length
 |[]=>Nat.le_refl _
 |x::l=>by
  have:=C8 h l;rw[List.filter_cons,List.filter_cons];by_cases h1:p' x=true
  ·rw[if_pos h1,if_pos (h x h1),List.length_cons,List.length_cons];omega
  ·rw[if_neg h1];split
   ·rw[List.length_cons];omega
   ·exact this
theorem Da{α:Type}{p p':α->Bool}(h:∀x,p' x=true->p x=true){y:α}(h1:p y=true)(h2:p' y=false):∀l:List α,y∈l->(l.filter p').length+1<=(l.filter p).length
 |[],j=>by cases j
 |x::l,j=>by
  rw[List.filter_cons,List.filter_cons];rcases List.mem_cons.1 j with rfl|j
  ·rw[if_neg (by rw[h2];simp),if_pos h1,List.length_cons];have:=C8 h l;omega
  ·have:=Da h h1 h2 l j;by_cases m:p' x=true
   ·rw[if_pos m,if_pos (h x m),List.length_cons,List.length_cons];omega
   ·rw[if_neg m];split
    ·rw[List.length_cons];omega
    ·exact this
theorem uy{S:List (K2×K2)}{D:K2->Bool}{e:K2}(h:dX S e=true)(hd:D e=false):mu S (fun x=>x==e||D x)+1<=mu S D:=by
 obtain⟨q,j,rfl⟩:=mD.1 h;refine Da (p:=fun x=>!D x.1) (p':=fun x=>!(x.1==q.1||D x.1)) (fun x hx=>?_) (y:=q) (by simp[hd]) (by simp) S j
 revert hx
 cases D x.1<;>simp
section
variable{S:List (K2×K2)}
theorem E9:∀(f:Nat) (V:K2->Bool) (e x y:K2),mu S V+1<=f->x∈W S f V e->dX S x=true->y=getM (A2.mk 0 0) S x->y∈W S f V e\/V y=true
 |0,V,e,x,y,C,hx,_,_=>by cases hx
 |f+1,V,e,x,y,C,hx,m,p=>by
  unfold W at hx ⊢;cases j:V e with
  |true=>rw[if_pos j]at hx;cases hx
  |false=>
   rw[if_neg (by simp[j])]at hx ⊢;have step:dX S e=true->(x∈W S f (fun z=>z==e||V z) (getM (A2.mk 0 0) S e))->y∈W S f (fun z=>z==e||V z) (getM (A2.mk 0 0) S e)\/(y=e\/V y=true):=fun he hx=>by
    have:=uy (S:=S) (D:=V) he j;rcases E9 f _ _ x y (by omega) hx m p with h|h
    ·exact .inl h
    ·simp only[Bool.or_eq_true,beq_iff_eq]at h;exact .inr h
   have fin:dX S e=true->y∈W S f (fun z=>z==e||V z) (getM (A2.mk 0 0) S e)\/(y=e\/V y=true)->y∈(e::(if dX S e=true then W S f (fun x=>x==e||V x) (getM (A2.mk 0 0) S e)else[]))\/V y=true:=fun he h=>by
    rw[if_pos he];rcases h with h|h|h
    ·exact .inl (List.mem_cons_of_mem _ h)
    ·exact .inl (by rw[h];exact List.mem_cons_self ..)
    ·exact .inr h
   rcases List.mem_cons.1 hx with rfl|hx
   ·refine fin m ?_;have hm:=uy (S:=S) (D:=V) m j;obtain⟨q,rfl⟩:∃q,f=q+1:=⟨f-1,by omega⟩;by_cases hd:(y==x||V y)=true
    ·simp only[Bool.or_eq_true,beq_iff_eq]at hd;exact .inr hd
    ·refine .inl ?_;unfold W;rw[<-p,if_neg hd];exact List.mem_cons_self ..
   ·by_cases he:dX S e=true
    ·rw[if_pos he]at hx;exact fin he (step he hx)
    ·rw[if_neg he]at hx;cases hx
theorem B9:∀(f:Nat) (V:K2->Bool) (e y:K2),y∈W S f V e->y=e\/∃x∈W S f V e,dX S x=true/\y=getM (A2.mk 0 0) S x
 |0,V,e,y,h=>by cases h
 |f+1,V,e,y,h=>by
  unfold W at h ⊢;by_cases j:V e=true
  ·rw[if_pos j]at h;cases h
  ·rw[if_neg j]at h ⊢;rcases List.mem_cons.1 h with rfl|h
   ·exact .inl rfl
   ·by_cases he:dX S e=true
    ·rw[if_pos he]at h ⊢;rcases B9 f _ _ y h with h|⟨x,hx,h1,h2⟩
     ·exact .inr ⟨e,List.mem_cons_self ..,he,h⟩
     ·exact .inr ⟨x,List.mem_cons_of_mem _ hx,h1,h2⟩
    ·rw[if_neg he]at h;cases h
def Cl(S:List (K2×K2))(D:K2->Bool):Prop:=∀x,dX S x=true->(D x=true↔D (getM (A2.mk 0 0) S x)=true)
theorem Dt{D:K2->Bool}(p:Cl S D):∀(f:Nat) (V:K2->Bool) (x:K2),D x=false->W S f (fun z=>V z||D z) x=W S f V x
 |0,_,_,_=>rfl
 |f+1,V,x,hx=>by
  unfold W;simp only[hx,Bool.or_false];by_cases m:V x=true
  ·rw[if_pos m,if_pos m]
  ·rw[if_neg m,if_neg m];by_cases j:dX S x=true
   ·rw[if_pos j,if_pos j];have q:D (getM (A2.mk 0 0) S x)=false:=by
     cases hc:D (getM (A2.mk 0 0) S x)with
     |false=>rfl
     |true=>rw[(p x j).2 hc]at hx;cases hx
    have:=Dt p f (fun z=>z==x||V z) _ q;rw[<-this];congr 2;funext z;rw[Bool.or_assoc]
   ·rw[if_neg j,if_neg j]
def path(S:List (K2×K2))(e:K2):List K2:=W S 100 (fun _=>false) e
theorem Hu{D:K2->Bool}(j:Cl S D){e:K2}(he:D e=false):W S 100 D e=path S e:=by
 have:=Dt j 100 (fun _=>false) e he;unfold path;rw[<-this];rfl
theorem Ee{f:Nat}{D:K2->Bool}{e:K2}(j:0<f)(he:D e=false):∃l,W S f D e=e::l:=by
 obtain⟨k,rfl⟩:∃k,f=k+1:=⟨f-1,by omega⟩;unfold W;rw[if_neg (by simp[he])];exact⟨_,rfl⟩
theorem Ej:∀(f:Nat) (D:K2->Bool) (e:K2),(W S f D e).length<=f
 |0,_,_=>by simp[W]
 |f+1,D,e=>by
  unfold W;split
  ·simp
  ·split
   ·have:=Ej f (fun x=>x==e||D x) (getM (A2.mk 0 0) S e);simp;omega
   ·simp
end
structure Ge (S:List (K2×K2)) (P:K2->Prop):Prop where
 k:∀q∈S,P q.1/\P q.2
theorem Ge.next{S:List (K2×K2)}{P:K2->Prop}(h:Ge S P){e:K2}(he:dX S e=true):P (getM (A2.mk 0 0) S e):=(h.k _ (rY he)).2
theorem zV{S:List (K2×K2)}{P:K2->Prop}(h:Ge S P):∀(f:Nat) (D:K2->Bool) (e:K2),P e->∀x∈W S f D e,P x
 |0,_,_,_,x,hx=>by cases hx
 |f+1,D,e,he,x,hx=>by
  unfold W at hx;split at hx
  ·cases hx
  ·rcases List.mem_cons.1 hx with rfl|hx
   ·exact he
   ·split at hx
    ·rename_i j;exact zV h f _ _ (h.next j) x hx
    ·cases hx
noncomputable def crP(g:ak)(level:Int)(e:K2):an:=(cQ 20000 g level e).getD default
noncomputable def crR(g:ak)(level:Int)(e:K2):an:=(bE 20000 g level e).getD default
theorem Bx{g:ak}{level:Int}{S:List (K2×K2)}{P:K2->Prop}(N:Ge S P)(O:∀e,P e->cQ 20000 g level e=some (crP g level e))(Y:S.length<=60){e:K2}(he:P e){closed:Bool}{D:List (K2×Bool)}(hd:dn D e=false){out:List ae}(M:out.length<=10000):
  dZ 20000 e closed D g.X0 g.Y0 g.Step g.Width g.Height g.Z level S out=some (jX D (W S 100 (dn D) e),out++[ae.mk closed ((W S 100 (dn D) e).map (crP g level))]):=by
 apply Ok.eq;unfold dZ;refine Ok.bd (R:=fun o=>o=(jX D (W S 100 (dn D) e),[]++(W S 100 (dn D) e).map (crP g level))) ?_ (by
  rintro o rfl;exact Ok.gd (decide_eq_true (by omega)) (Ok.gd (decide_eq_true (by omega)) (aw.2 (by rw[List.nil_append]))))
 have key:∀(f m:Nat) (D:List (K2×Bool)) (c:List an) (e:K2),f<m->mu S (dn D)+1<=f->P e->dn D e=false->c.length+f<=10000->
   Ok (aJ m (fun C (z,q,j,p)=>(
  bdO (cQ 20000 (ak.mk g.X0 g.Y0 g.Step g.Width g.Height g.Z) level (A2.mk j p)) fun E=>(
  gdO (decide ((q.length+1)*80<=140737488355328)) (
  gdO (decide (q.length+1<=4611686018427387904)) (
  cdO (!(dX S (A2.mk j p))) (
   some ((dm z (A2.mk j p) true,q++[E]))
  ) (
   cdO (getM false (dm z (A2.mk j p) true) (getM (A2.mk 0 0:A2 Int) S (A2.mk j p))) (
    some ((dm z (A2.mk j p) true,q++[E]))
   ) (
    C (dm z (A2.mk j p) true,q++[E],(getM (A2.mk 0 0:A2 Int) S (A2.mk j p)).e0,(getM (A2.mk 0 0:A2 Int) S (A2.mk j p)).e1)
   ))))))) (D,c,e.e0,e.e1)) fun o=>o=(jX D (W S f (dn D) e),c++(W S f (dn D) e).map (crP g level)):=by
  intro f;induction f with
  |zero=>intro m D c e _ h;omega
  |succ f T=>
   intro m D c e hm hf he hd hc;obtain⟨m,rfl⟩:∃k,m=k+1:=⟨m-1,by omega⟩;rw[lN];dsimp only;have U:W S (f+1) (dn D) e=e::(if dX S e=true then W S f (dn (dm D e true)) (getM (A2.mk 0 0) S e)else[]):=by
    rw[yj]
    conv=>lhs;unfold W
    rw[if_neg (by simp[hd])]
   rw[U];refine Ok.bde (O e he) (Ok.gd (decide_eq_true (by omega)) (Ok.gd (decide_eq_true (by omega)) ?_));refine Ok.cd (fun h=>aw.2 ?_) (fun h=>?_)
   ·have h:dX S e=false:=by simpa using h
    rw[if_neg (by rw[h];simp)];rfl
   ·have h:dX S e=true:=by simpa using h
    rw[if_pos h];have J:=uy (S:=S) h hd;rw[<-yj]at J;refine Ok.cd (fun I=>aw.2 ?_) (fun I=>?_)
    ·have I:dn (dm D e true) (getM (A2.mk 0 0) S e)=true:=I;rw[show W S f (dn (dm D e true)) (getM (A2.mk 0 0) S e)=[]by cases f<;>unfold W<;>simp[I]];rfl
    ·have I:dn (dm D e true) (getM (A2.mk 0 0) S e)=false:=I;refine(T m (dm D e true) (c++[crP g level e]) _ (by omega) (by omega) (N.next h) I (by rw[List.length_append,List.length_singleton];omega)).mono fun o M=>M.trans ?_
     rw[List.map_cons,List.append_assoc];rfl
 have:=Bg S (dn D);exact key 100 20000 D [] e (by omega) (by omega) he hd (by simp)
theorem Bp{g:ak}{level:Int}{S:List (K2×K2)}{P:K2->Prop}(N:Ge S P)(O:∀e,P e->bE 20000 g level e=some (crR g level e))(Y:S.length<=60){e:K2}(he:P e){closed:Bool}{D:List (K2×Bool)}{out:List ae}(M:out.length<=10000):
  cN 20000 e closed D S g.X0 g.Y0 g.Step g.Width g.Height g.Z level out=some (jX D (W S 100 (dn D) e),out++[ae.mk closed ((W S 100 (dn D) e).map (crR g level))]):=by
 apply Ok.eq;unfold cN;refine Ok.bd (R:=fun o=>o=(jX D (W S 100 (dn D) e),[]++(W S 100 (dn D) e).map (crR g level))) ?_ (by
  rintro o rfl;exact Ok.gd (decide_eq_true (by omega)) (Ok.gd (decide_eq_true (by omega)) (aw.2 (by rw[List.nil_append]))))
 have key:∀(f m:Nat) (D:List (K2×Bool)) (c:List an) (e:K2),f+1<m->mu S (dn D)+1<=f->P e->c.length+f<=10000->
   Ok (aJ m (fun C (z,j,p,q,E)=>(
  cdO E (
   cdO (!(getM false z (A2.mk j p))) (
    bdO (bE 20000 (ak.mk g.X0 g.Y0 g.Step g.Width g.Height g.Z) level (A2.mk j p)) fun I=>(
    gdO (decide ((q.length+1)*80<=140737488355328)) (
    gdO (decide (q.length+1<=4611686018427387904)) (
    C (dm z (A2.mk j p) true,(getM (A2.mk 0 0:A2 Int) S (A2.mk j p)).e0,(getM (A2.mk 0 0:A2 Int) S (A2.mk j p)).e1,q++[I],dX S (A2.mk j p))
    )))
   ) (
    some ((z,q))
   )
  ) (
   some ((z,q))
  ))) (D,e.e0,e.e1,c,true)) fun o=>o=(jX D (W S f (dn D) e),c++(W S f (dn D) e).map (crR g level)):=by
  intro f;induction f with
  |zero=>intro m D c e _ h;omega
  |succ f T=>
   intro m D c e hm hf he hc;obtain⟨m,rfl⟩:∃k,m=k+1:=⟨m-1,by omega⟩;rw[lN];dsimp only;refine Ok.cd (fun _=>Ok.cd (fun hd=>?_) (fun hd=>aw.2 ?_)) (fun h=>by cases h)
   ·have hd:dn D e=false:=by
     have:(!dn D e)=true:=hd;simpa using this
    have U:W S (f+1) (dn D) e=e::(if dX S e=true then W S f (dn (dm D e true)) (getM (A2.mk 0 0) S e)else[]):=by
     rw[yj]
     conv=>lhs;unfold W
     rw[if_neg (by simp[hd])]
    rw[U];refine Ok.bde (O e he) (Ok.gd (decide_eq_true (by omega)) (Ok.gd (decide_eq_true (by omega)) ?_));cases h:dX S e with
    |true=>
     have J:=uy (S:=S) h hd;rw[<-yj]at J;show Ok (aJ m _ (dm D e true,(getM (A2.mk 0 0) S e).e0,(getM (A2.mk 0 0) S e).e1,c++[crR g level e],true)) _;rw[if_pos rfl];refine(T m (dm D e true) (c++[crR g level e]) _ (by omega) (by omega) (N.next h) (by rw[List.length_append,List.length_singleton];omega)).mono fun o M=>M.trans ?_
     rw[List.map_cons,List.append_assoc];rfl
    |false=>
     show Ok (aJ m _ (dm D e true,(getM (A2.mk 0 0) S e).e0,(getM (A2.mk 0 0) S e).e1,c++[crR g level e],false)) _;obtain⟨m,rfl⟩:∃k,m=k+1:=⟨m-1,by omega⟩;rw[if_neg (by simp),lN];exact Ok.cd (fun h=>by cases h) (fun _=>aw.2 rfl)
   ·have hd:dn D e=true:=by
     have:(!dn D e)=false:=hd;simpa using this
    rw[show W S (f+1) (dn D) e=[]by unfold W;rw[if_pos hd]];show(D,c)=(D,c++[]);rw[List.append_nil]
 have:=Bg S (dn D);exact key 100 20000 D [] e (by omega) (by omega) he (by simp)
end Go.L


set_option linter.all false
namespace Go.L
open Go Go.Eng
theorem Cu{α:Type}{R:α->α->Prop}(hs:∀a b,R a b->R b a):∀{l:List α},l.Pairwise R->∀a∈l,∀b∈l,a≠b->R a b
 |[],_,_,h,_,_,_=>by cases h
 |x::l,hp,a,ha,b,hb,p=>by
  rw[List.pairwise_cons]at hp;rcases List.mem_cons.1 ha with rfl|j<;>rcases List.mem_cons.1 hb with rfl|m
  ·exact absurd rfl p
  ·exact hp.1 b m
  ·exact hs _ _ (hp.1 a j)
  ·exact Cu hs hp.2 a j b m p
section
variable{S:List (K2×K2)}
abbrev nxt(S:List (K2×K2))(x:K2):K2:=getM (A2.mk 0 0) S x
theorem Gf(j:S.Pairwise Rq){x y:K2}(hx:dX S x=true)(m:dX S y=true)(e:nxt S x=nxt S y):x=y:=by
 apply Classical.byContradiction;intro p;have h1:=rY (z:=(A2.mk 0 0:K2)) hx;have h2:=rY (z:=(A2.mk 0 0:K2)) m;have:=Cu (R:=Rq) (fun a b h=>⟨fun e=>h.1 e.symm,fun e=>h.2 e.symm⟩) j _ h1 _ h2 (fun e=>p (congrArg Prod.fst e));exact this.2 e
def isS(S:List (K2×K2))(e:K2):Prop:=∀x,dX S x=true->nxt S x≠e
theorem B0{e j:K2}(h:isS S e)(hm:e∈path S j):e=j:=by
 rcases B9 100 _ j e hm with h1|⟨x,_,hx,h1⟩
 ·exact h1
 ·exact absurd h1.symm (h x hx)
structure Op (S:List (K2×K2)) (cr:K2->an) (L:List K2) (c:List (K2×Bool)×List ae):Prop where
 cl:Cl S (dn c.1)
 mem:∀x,dn c.1 x=true↔∃e∈L,x∈path S e
 out:c.2=L.map fun e=>ae.mk false ((path S e).map cr)
theorem E4{cr:K2->an}:Op S cr [] ([],[]):=⟨fun x _=>Iff.rfl,fun x=>by simp[dn,getM],rfl⟩
theorem Op.step(z:S.Pairwise Rq)(D:S.length<=60){cr:K2->an}{L:List K2}{c:List (K2×Bool)×List ae}(h:Op S cr L c){e:K2}(he:isS S e)(q:e∉L):
  dn c.1 e=false/\W S 100 (dn c.1) e=path S e/\Op S cr (L++[e]) (jX c.1 (path S e),c.2++[ae.mk false ((path S e).map cr)]):=by
 have hd:dn c.1 e=false:=by
  cases hc:dn c.1 e with
  |false=>rfl
  |true=>
   obtain⟨m,j,hm⟩:=(h.mem e).1 hc;rw[B0 he hm]at q;exact absurd j q
 refine⟨hd,Hu h.cl hd,⟨fun x hx=>?_,fun x=>?_,?_⟩⟩
 ·rw[qo,qo];constructor
  ·rintro(hp|hp)
   ·rcases E9 100 (fun _=>false) e x _ (by have:=Bg S (fun _=>false);omega) hp hx rfl with h1|h1
    ·exact .inl h1
    ·cases h1
   ·exact .inr ((h.cl x hx).1 hp)
  ·rintro(hp|hp)
   ·rcases B9 100 _ e _ hp with h1|⟨y,C,p,h1⟩
    ·exact absurd h1 (he x hx)
    ·rw[Gf z hx p h1];exact .inl C
   ·exact .inr ((h.cl x hx).2 hp)
 ·rw[qo,h.mem];constructor
  ·rintro(hp|⟨m,j,hp⟩)
   ·exact⟨e,by simp,hp⟩
   ·exact⟨m,by simp[j],hp⟩
  ·rintro⟨m,j,hp⟩;rcases List.mem_append.1 j with h1|h1
   ·exact .inr ⟨m,h1,hp⟩
   ·rw[List.mem_singleton]at h1;subst h1;exact .inl hp
 ·rw[List.map_append,h.out];rfl
def CLs(S:List (K2×K2)):List K2->(K2->Bool)->List (List K2)
 |[],_=>[]
 |e::L,D=>if D e=true then CLs S L D else W S 100 D e::CLs S L (fun x=>(W S 100 D e).contains x||D x)
theorem yM(l:List K2)(D:List (K2×Bool)):dn (jX D l)=fun x=>l.contains x||dn D x:=by
 funext x;have:=qo l D x;cases h:dn (jX D l) x with
 |true=>
  rcases this.1 h with h|h
  ·simp[h]
  ·simp[h]
 |false=>
  rw[h]at this;have j:¬x∈l:=fun k=>by have:=this.2 (.inl k);cases this
  have m:dn D x=false:=by
   cases hc:dn D x with
   |false=>rfl
   |true=>have:=this.2 (.inr hc);cases this
  rw[m];simp[j]
theorem A4{e:K2}{L:List K2}{D:K2->Bool}(h:D e=true):CLs S (e::L) D=CLs S L D:=by
 conv=>lhs;unfold CLs
 rw[if_pos h]
theorem CW{e:K2}{L:List K2}{D:List (K2×Bool)}(h:dn D e=false):CLs S (e::L) (dn D)=W S 100 (dn D) e::CLs S L (dn (jX D (W S 100 (dn D) e))):=by
 conv=>lhs;unfold CLs
 rw[if_neg (by simp[h]),yM]
theorem z8:∀(L:List K2) (D:K2->Bool),(CLs S L D).length<=L.length
 |[],_=>Nat.le_refl _
 |e::L,D=>by
  unfold CLs;split
  ·have:=z8 L D;rw[List.length_cons];omega
  ·have:=z8 L (fun x=>(W S 100 D e).contains x||D x);rw[List.length_cons,List.length_cons];omega
theorem qf:∀(L:List K2) (D:K2->Bool),(∀l∈CLs S L D,∃e t,l=e::t/\e∈L/\D e=false)/\(CLs S L D).Pairwise (fun l m=>l.head?≠m.head?)
 |[],_=>⟨fun l h=>(by cases h),.nil⟩
 |e::L,D=>by
  unfold CLs;by_cases hd:D e=true
  ·rw[if_pos hd];obtain⟨h1,h2⟩:=qf L D;exact⟨fun l j=>by obtain⟨a,t,e1,e2,p⟩:=h1 l j;exact⟨a,t,e1,List.mem_cons_of_mem _ e2,p⟩,h2⟩
  ·have hd:D e=false:=by simpa using hd
   rw[if_neg (by simp[hd])];obtain⟨h1,h2⟩:=qf L (fun x=>(W S 100 D e).contains x||D x);obtain⟨t0,q⟩:=Ee (S:=S) (f:=100) (by omega) hd;refine⟨fun l j=>?_,List.pairwise_cons.2 ⟨fun l j=>?_,h2⟩⟩
   ·rcases List.mem_cons.1 j with rfl|j
    ·exact⟨e,t0,q,by simp,hd⟩
    ·obtain⟨a,t,e1,e2,p⟩:=h1 l j;exact⟨a,t,e1,List.mem_cons_of_mem _ e2,by rw[Bool.or_eq_false_iff]at p;exact p.2⟩
   ·obtain⟨a,t,e1,e2,p⟩:=h1 l j;rw[q,e1];intro h;have h:e=a:=by simpa using h
    rw[Bool.or_eq_false_iff]at p;have:=p.1;rw[q,h]at this;simp at this
end
end Go.L


set_option linter.all false
namespace Go.L
open Go Go.Eng
theorem xF{S:List (K2×K2)}(j:S.Pairwise Rq){e:K2}(h:getM false (S.map fun q=>(q.2,true)) e=false):isS S e:=by
 rintro x hx rfl;have hm:=rY (z:=(A2.mk 0 0:K2)) hx;have:getM false (S.map fun q=>(q.2,true)) (nxt S x)=true:=BG (by
  rw[List.pairwise_map];exact j.imp fun h=>h.2) (List.mem_map.2 ⟨_,hm,rfl⟩)
 rw[this]at h;cases h
def bk(S:List (K2×K2)):List (K2×Bool):=S.map fun q=>(q.2,true)
def opn(S:List (K2×K2))(e:K2):Bool:=!getM false (bk S) e
def toC(cr:K2->an)(b:Bool)(l:List K2):ae:=ae.mk b (l.map cr)
theorem wq{α:Type}[Inhabited α]{l:List α}{k:Nat}(h:k<l.length):gt l (k:Int)=l[k]:=by
 rw[jV];simp[List.getD,geT h]
theorem oC{α:Type}{l:List α}{k:Nat}(h:k<l.length):l.take (k+1)=l.take k++[l[k]]:=by
 rw[List.take_add_one,geT h];rfl
theorem yn{l:List K2}{k:Nat}(h:k<l.length)(j:l.Nodup):l[k]∉l.take k:=by
 have h1:(l.take (k+1)).Nodup:=j.sublist (List.take_sublist _ _);rw[oC h]at h1;intro hm;exact(List.nodup_append.1 h1).2.2 _ hm _ (by simp) rfl
theorem Fp{g:ak}{level:Int}{S:List (K2×K2)}{P:K2->Prop}(I:S.Pairwise Rq)(J:Ge S P)(M:∀e,P e->cQ 20000 g level e=some (crP g level e))(C:S.length<=60)
  {K:List K2} (N:K.Nodup) (O:K.length<=60) (z:∀e∈K,P e) {F:List ae->List ae}
  (T:∀c,Op S (crP g level) (K.filter (opn S)) c->aK 20000 (c.2++(CLs S K (dn c.1)).map (toC (crP g level) true))=some (F (c.2++(CLs S K (dn c.1)).map (toC (crP g level) true)))/\
   (F (c.2++(CLs S K (dn c.1)).map (toC (crP g level) true))).length=(c.2++(CLs S K (dn c.1)).map (toC (crP g level) true)).length):
  Ok (rK 20000 g level (S,bk S) (K.length:Int) K) fun r=>∃c,Op S (crP g level) (K.filter (opn S)) c/\r=F (c.2++(CLs S K (dn c.1)).map (toC (crP g level) true)):=by
 unfold rK;refine Ok.bd (R:=fun c=>Op S (crP g level) (K.filter (opn S)) c/\c.2.length<=60) ?_ ?_
 ·refine cD (γ:=List (K2×Bool)×List ae) (len:=K.length) (fun c x=>(c.1,c.2,x)) (fun k c=>Op S (crP g level) ((K.take k).filter (opn S)) c/\c.2.length<=k) (by omega) (by omega) (c0:=([],[])) ⟨E4,by simp⟩ ?_ ?_
  ·rintro again k c j ⟨m,hc⟩ p;have e1:=wq j;have e2:(K.take (k+1)).filter (opn S)=(K.take k).filter (opn S)++(if opn S K[k]=true then[K[k]]else[]):=by
    rw[oC j,List.filter_append];by_cases h:opn S K[k]=true
    ·rw[if_pos h];simp[h]
    ·rw[if_neg h];simp[h]
   have hm:K[k]∉(K.take k).filter (opn S):=fun h=>yn j N (List.mem_filter.1 h).1
   have hp:=z _ (List.getElem_mem j);rw[e2]at p;refine Ok.cd (fun _=>?_) (fun h=>by have:=dcF h;omega);refine Ok.gd (by rw[aR];exact decide_eq_true j) ?_;rw[e1];refine Ok.cd (fun h=>?_) (fun h=>?_)
   ·have h:opn S K[k]=true:=h;rw[if_pos h]at p;have D:isS S K[k]:=xF I (by unfold opn bk at h;simpa using h);obtain⟨hd,U,E⟩:=m.step I C D hm;refine Ok.bde (Bx J M C hp hd (by omega)) ?_;rw[U];exact p (jX c.1 (path S K[k]),c.2++[ae.mk false ((path S K[k]).map (crP g level))]) ⟨E,by dsimp only;rw[List.length_append,List.length_singleton];omega⟩
   ·have h:opn S K[k]=false:=h;rw[if_neg (by rw[h];simp),List.append_nil]at p;exact p c ⟨m,by omega⟩
  ·rintro again c ⟨m,hc⟩;rw[List.take_length]at m;exact Ok.cd (fun h=>by have:=dcT h;omega) (fun _=>aw.2 ⟨m,show c.2.length<=60 by omega⟩)
 ·rintro c0 ⟨m,Y⟩;refine Ok.bd (R:=fun o=>o=c0.2++(CLs S K (dn c0.1)).map (toC (crP g level) true)) ?_ ?_
  ·refine cD (γ:=List (K2×Bool)×List ae) (len:=K.length) (fun c x=>(c.1,c.2,x)) (fun k c=>c.2++(CLs S (K.drop k) (dn c.1)).map (toC (crP g level) true)=c0.2++(CLs S K (dn c0.1)).map (toC (crP g level) true)/\c.2.length<=60+k) (by omega) (by omega) (c0:=c0) ⟨rfl,by omega⟩ ?_ ?_
   ·rintro again k c j ⟨q,hc⟩ p;have hp:=z _ (List.getElem_mem j);rw[List.drop_eq_getElem_cons j]at q;refine Ok.cd (fun _=>?_) (fun h=>by have:=dcF h;omega);refine Ok.gd (by rw[aR];exact decide_eq_true j) ?_;rw[wq j];refine Ok.cd (fun h=>?_) (fun h=>?_)
    ·have h:dn c.1 K[k]=false:=by
      have:(!dn c.1 K[k])=true:=h;simpa using this
     refine Ok.bde (Bx J M C hp h (by omega)) ?_;rw[CW h,List.map_cons]at q;refine p (jX c.1 (W S 100 (dn c.1) K[k]),c.2++[ae.mk true ((W S 100 (dn c.1) K[k]).map (crP g level))]) ⟨?_,by dsimp only;rw[List.length_append,List.length_singleton];omega⟩;rw[<-q,List.append_assoc];rfl
    ·have h:dn c.1 K[k]=true:=by
      have:(!dn c.1 K[k])=false:=h;simpa using this
     rw[A4 h]at q;exact p c ⟨q,by omega⟩
   ·rintro again c ⟨q,hc⟩;rw[List.drop_length]at q;refine Ok.cd (fun h=>by have:=dcT h;omega) (fun _=>aw.2 ?_);rw[<-q];show c.2=c.2++[];rw[List.append_nil]
  ·rintro o rfl;obtain⟨f1,f2⟩:=T c0 m;refine Ok.bde f1 (Ok.gd (decide_eq_true f2) (aw.2 ⟨c0,m,rfl⟩))
end Go.L

