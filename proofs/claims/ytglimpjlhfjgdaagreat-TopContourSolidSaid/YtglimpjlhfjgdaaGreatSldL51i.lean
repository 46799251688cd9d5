import Derived.Test.YtglimpjlhfjgdaaGreatSldL51e
import Derived.Test.YtglimpjlhfjgdaaGreatSldL51t
import Derived.Test.YtglimpjlhfjgdaaGreatSldLsrt
import Derived.Test.YtglimpjlhfjgdaaGreatSldL02oB
import Derived.Test.YtglimpjlhfjgdaaGreatSldL02oB
set_option linter.all false
namespace Go.L
open Go Go.Eng
theorem Cj{α:Type}{R:α->α->Prop}(hs:∀a b,R a b->R b a):∀{l:List α},l.Pairwise R->∀a∈l,∀b∈l,a≠b->R a b
 |[],_,_,h,_,_,_=>by cases h
 |x::l,hp,a,q,b,z,p=>by
  rw[List.pairwise_cons]at hp;rcases List.mem_cons.1 q with rfl|j<;>rcases List.mem_cons.1 z with rfl|m
  ·exact absurd rfl p
  ·exact hp.1 b m
  ·exact hs _ _ (hp.1 a j)
  ·exact Cj hs hp.2 a j b m p
section
variable{S:List (K2×K2)}
abbrev nxt(S:List (K2×K2))(x:K2):K2:=getM (A2.mk 0 0) S x
theorem zN(j:S.Pairwise Rq){x y:K2}(m:cG S x=true)(p:cG S y=true)(e:nxt S x=nxt S y):x=y:=by
 apply Classical.byContradiction;intro q;have h1:=nU (z:=(A2.mk 0 0:K2)) m;have h2:=nU (z:=(A2.mk 0 0:K2)) p;have:=Cj (R:=Rq) (fun a b h=>⟨fun e=>h.1 e.symm,fun e=>h.2 e.symm⟩) j _ h1 _ h2 (fun e=>q (congrArg Prod.fst e));exact this.2 e
def isS(S:List (K2×K2))(e:K2):Prop:=∀x,cG S x=true->nxt S x≠e
theorem B0{e j:K2}(h:isS S e)(hm:e∈path S j):e=j:=by
 rcases BM 100 _ j e hm with h1|⟨x,_,m,h1⟩
 ·exact h1
 ·exact absurd h1.symm (h x m)
structure Op (S:List (K2×K2)) (cr:K2->aw) (L:List K2) (c:List (K2×Bool)×List ak):Prop where
 cl:Cl S (dn c.1)
 mem:∀x,dn c.1 x=true↔∃e∈L,x∈path S e
 out:c.2=L.map fun e=>ak.mk false ((path S e).map cr)
theorem I5{cr:K2->aw}:Op S cr [] ([],[]):=⟨fun x _=>Iff.rfl,fun x=>by simp[dn,getM],rfl⟩
theorem Op.step(D:S.Pairwise Rq)(I:S.length<=60){cr:K2->aw}{L:List K2}{c:List (K2×Bool)×List ak}(h:Op S cr L c){e:K2}(he:isS S e)(z:e∉L):
  dn c.1 e=false/\W S 100 (dn c.1) e=path S e/\Op S cr (L++[e]) (lP c.1 (path S e),c.2++[ak.mk false ((path S e).map cr)]):=by
 have C:dn c.1 e=false:=by
  cases hc:dn c.1 e with
  |false=>rfl
  |true=>
   obtain⟨p,j,hm⟩:=(h.mem e).1 hc;rw[B0 he hm]at z;exact absurd j z
 refine⟨C,Iy h.cl C,⟨fun x m=>?_,fun x=>?_,?_⟩⟩
 ·rw[nK,nK];constructor
  ·rintro(hp|hp)
   ·rcases BA 100 (fun _=>false) e x _ (by have:=Gs S (fun _=>false);omega) hp m rfl with h1|h1
    ·exact .inl h1
    ·cases h1
   ·exact .inr ((h.cl x m).1 hp)
  ·rintro(hp|hp)
   ·rcases BM 100 _ e _ hp with h1|⟨y,E,q,h1⟩
    ·exact absurd h1 (he x m)
    ·rw[zN D m q h1];exact .inl E
   ·exact .inr ((h.cl x m).2 hp)
 ·rw[nK,h.mem];constructor
  ·rintro(hp|⟨p,j,hp⟩)
   ·exact⟨e,by simp,hp⟩
   ·exact⟨p,by simp[j],hp⟩
  ·rintro⟨p,j,hp⟩;rcases List.mem_append.1 j with h1|h1
   ·exact .inr ⟨p,h1,hp⟩
   ·rw[List.mem_singleton]at h1;subst h1;exact .inl hp
 ·rw[List.map_append,h.out];rfl
def CLs(S:List (K2×K2)):List K2->(K2->Bool)->List (List K2)
 |[],_=>[]
 |e::L,D=>if D e=true then CLs S L D else W S 100 D e::CLs S L (fun x=>(W S 100 D e).contains x||D x)
theorem xI(l:List K2)(D:List (K2×Bool)):dn (lP D l)=fun x=>l.contains x||dn D x:=by
 funext x;have:=nK l D x;cases h:dn (lP D l) x with
 |true=>
  rcases this.1 h with h|h
  ·simp[h]
  ·simp[h]
 |false=>
  rw[h]at this;have j:¬x∈l:=fun k=>by have:=this.2 (.inl k);cases this
  have n2:dn D x=false:=by
   cases hc:dn D x with
   |false=>rfl
   |true=>have:=this.2 (.inr hc);cases this
  rw[n2];simp[j]
theorem Gb{e:K2}{L:List K2}{D:K2->Bool}(h:D e=true):CLs S (e::L) D=CLs S L D:=by
 conv=>lhs;unfold CLs
 rw[if_pos h]
theorem HJ{e:K2}{L:List K2}{D:List (K2×Bool)}(h:dn D e=false):CLs S (e::L) (dn D)=W S 100 (dn D) e::CLs S L (dn (lP D (W S 100 (dn D) e))):=by
 conv=>lhs;unfold CLs
 rw[if_neg (by simp[h]),xI]
theorem za:∀(L:List K2) (D:K2->Bool),(CLs S L D).length<=L.length
 |[],_=>Nat.le_refl _
 |e::L,D=>by
  unfold CLs;split
  ·have:=za L D;rw[List.length_cons];omega
  ·have:=za L (fun x=>(W S 100 D e).contains x||D x);rw[List.length_cons,List.length_cons];omega
theorem qM:∀(L:List K2) (D:K2->Bool),(∀l∈CLs S L D,∃e t,l=e::t/\e∈L/\D e=false)/\(CLs S L D).Pairwise (fun l m=>l.head?≠m.head?)
 |[],_=>⟨fun l h=>(by cases h),.nil⟩
 |e::L,D=>by
  unfold CLs;by_cases z:D e=true
  ·rw[if_pos z];obtain⟨h1,h2⟩:=qM L D;exact⟨fun l j=>by obtain⟨a,t,e1,e2,p⟩:=h1 l j;exact⟨a,t,e1,List.mem_cons_of_mem _ e2,p⟩,h2⟩
  ·have z:D e=false:=by simpa using z
   rw[if_neg (by simp[z])];obtain⟨h1,h2⟩:=qM L (fun x=>(W S 100 D e).contains x||D x);obtain⟨t0,q⟩:=BF (S:=S) (f:=100) (by omega) z;refine⟨fun l j=>?_,List.pairwise_cons.2 ⟨fun l j=>?_,h2⟩⟩
   ·rcases List.mem_cons.1 j with rfl|j
    ·exact⟨e,t0,q,by simp,z⟩
    ·obtain⟨a,t,e1,e2,p⟩:=h1 l j;exact⟨a,t,e1,List.mem_cons_of_mem _ e2,by rw[Bool.or_eq_false_iff]at p;exact p.2⟩
   ·obtain⟨a,t,e1,e2,p⟩:=h1 l j;rw[q,e1];intro h;have h:e=a:=by simpa using h
    rw[Bool.or_eq_false_iff]at p;have:=p.1;rw[q,h]at this;simp at this
end
end Go.L


set_option linter.all false
namespace Go.L
open Go Go.Eng
theorem Ck{S:List (K2×K2)}(j:S.Pairwise Rq){e:K2}(h:getM false (S.map fun q=>(q.2,true)) e=false):isS S e:=by
 rintro x m rfl;have hm:=nU (z:=(A2.mk 0 0:K2)) m;have:getM false (S.map fun q=>(q.2,true)) (nxt S x)=true:=qs (by
  rw[List.pairwise_map];exact j.imp fun h=>h.2) (List.mem_map.2 ⟨_,hm,rfl⟩)
 rw[this]at h;cases h
def bk(S:List (K2×K2)):List (K2×Bool):=S.map fun q=>(q.2,true)
def opn(S:List (K2×K2))(e:K2):Bool:=!getM false (bk S) e
def toC(cr:K2->aw)(b:Bool)(l:List K2):ak:=ak.mk b (l.map cr)
theorem BR{α:Type}[Inhabited α]{l:List α}{k:Nat}(h:k<l.length):gt l (k:Int)=l[k]:=by
 rw[cZ];simp[List.getD,geT h]
theorem ur{α:Type}{l:List α}{k:Nat}(h:k<l.length):l.take (k+1)=l.take k++[l[k]]:=by
 rw[List.take_add_one,geT h];rfl
theorem Cs{l:List K2}{k:Nat}(h:k<l.length)(j:l.Nodup):l[k]∉l.take k:=by
 have h1:(l.take (k+1)).Nodup:=j.sublist (List.take_sublist _ _);rw[ur h]at h1;intro hm;exact(List.nodup_append.1 h1).2.2 _ hm _ (by simp) rfl
theorem EZ{g:aj}{level:Int}{S:List (K2×K2)}{P:K2->Prop}(D:S.Pairwise Rq)(E:Ge S P)(I:∀e,P e->cv 20000 g level e=some (crP g level e))(q:S.length<=60)
  {K:List K2} (J:K.Nodup) (M:K.length<=60) (p:∀e∈K,P e) {F:List ak->List ak}
  (N:∀c,Op S (crP g level) (K.filter (opn S)) c->aJ 20000 (c.2++(CLs S K (dn c.1)).map (toC (crP g level) true))=some (F (c.2++(CLs S K (dn c.1)).map (toC (crP g level) true)))/\
   (F (c.2++(CLs S K (dn c.1)).map (toC (crP g level) true))).length=(c.2++(CLs S K (dn c.1)).map (toC (crP g level) true)).length):
  Ok (uo 20000 g level (S,bk S) (K.length:Int) K) fun r=>∃c,Op S (crP g level) (K.filter (opn S)) c/\r=F (c.2++(CLs S K (dn c.1)).map (toC (crP g level) true)):=by
 unfold uo;refine Ok.bd (R:=fun c=>Op S (crP g level) (K.filter (opn S)) c/\c.2.length<=60) ?_ ?_
 ·refine gO (γ:=List (K2×Bool)×List ak) (len:=K.length) (fun c x=>(c.1,c.2,x)) (fun k c=>Op S (crP g level) ((K.take k).filter (opn S)) c/\c.2.length<=k) (by omega) (by omega) (c0:=([],[])) ⟨I5,by simp⟩ ?_ ?_
  ·rintro again k c hk ⟨hO,hc⟩ j;have e1:=BR hk;have e2:(K.take (k+1)).filter (opn S)=(K.take k).filter (opn S)++(if opn S K[k]=true then[K[k]]else[]):=by
    rw[ur hk,List.filter_append];by_cases h:opn S K[k]=true
    ·rw[if_pos h];simp[h]
    ·rw[if_neg h];simp[h]
   have hm:K[k]∉(K.take k).filter (opn S):=fun h=>Cs hk J (List.mem_filter.1 h).1
   have hp:=p _ (List.getElem_mem hk);rw[e2]at j;refine Ok.cd (fun _=>?_) (fun h=>by have:=dcF h;omega);refine Ok.gd (by rw[bf];exact decide_eq_true hk) ?_;rw[e1];refine Ok.cd (fun h=>?_) (fun h=>?_)
   ·have h:opn S K[k]=true:=h;rw[if_pos h]at j;have z:isS S K[k]:=Ck D (by unfold opn bk at h;simpa using h);obtain⟨O,T,C⟩:=hO.step D q z hm;refine Ok.bde (Ap E I q hp O (by omega)) ?_;rw[T];exact j (lP c.1 (path S K[k]),c.2++[ak.mk false ((path S K[k]).map (crP g level))]) ⟨C,by dsimp only;rw[List.length_append,List.length_singleton];omega⟩
   ·have h:opn S K[k]=false:=h;rw[if_neg (by rw[h];simp),List.append_nil]at j;exact j c ⟨hO,by omega⟩
  ·rintro again c ⟨hO,hc⟩;rw[List.take_length]at hO;exact Ok.cd (fun h=>by have:=dcT h;omega) (fun _=>aC.2 ⟨hO,show c.2.length<=60 by omega⟩)
 ·rintro c0 ⟨hO,U⟩;refine Ok.bd (R:=fun o=>o=c0.2++(CLs S K (dn c0.1)).map (toC (crP g level) true)) ?_ ?_
  ·refine gO (γ:=List (K2×Bool)×List ak) (len:=K.length) (fun c x=>(c.1,c.2,x)) (fun k c=>c.2++(CLs S (K.drop k) (dn c.1)).map (toC (crP g level) true)=c0.2++(CLs S K (dn c0.1)).map (toC (crP g level) true)/\c.2.length<=60+k) (by omega) (by omega) (c0:=c0) ⟨rfl,by omega⟩ ?_ ?_
   ·rintro again k c hk ⟨m,hc⟩ j;have hp:=p _ (List.getElem_mem hk);rw[List.drop_eq_getElem_cons hk]at m;refine Ok.cd (fun _=>?_) (fun h=>by have:=dcF h;omega);refine Ok.gd (by rw[bf];exact decide_eq_true hk) ?_;rw[BR hk];refine Ok.cd (fun h=>?_) (fun h=>?_)
    ·have h:dn c.1 K[k]=false:=by
      have:(!dn c.1 K[k])=true:=h;simpa using this
     refine Ok.bde (Ap E I q hp h (by omega)) ?_;rw[HJ h,List.map_cons]at m;refine j (lP c.1 (W S 100 (dn c.1) K[k]),c.2++[ak.mk true ((W S 100 (dn c.1) K[k]).map (crP g level))]) ⟨?_,by dsimp only;rw[List.length_append,List.length_singleton];omega⟩;rw[<-m,List.append_assoc];rfl
    ·have h:dn c.1 K[k]=true:=by
      have:(!dn c.1 K[k])=false:=h;simpa using this
     rw[Gb h]at m;exact j c ⟨m,by omega⟩
   ·rintro again c ⟨m,hc⟩;rw[List.drop_length]at m;refine Ok.cd (fun h=>by have:=dcT h;omega) (fun _=>aC.2 ?_);rw[<-m];show c.2=c.2++[];rw[List.append_nil]
  ·rintro o rfl;obtain⟨f1,f2⟩:=N c0 hO;refine Ok.bde f1 (Ok.gd (decide_eq_true f2) (aC.2 ⟨c0,hO,rfl⟩))
end Go.L


set_option linter.all false
namespace Go.L
open Go Go.Eng
end Go.L


set_option linter.all false
namespace Go.L
open Go Go.Eng
def kap(e:K2):Int:=e.e0*4096+e.e1
structure Cr (Z:List Int) (level:Int) (e:K2):Prop where
 i0:inR e.e0 Z.length=true
 i1:inR e.e1 Z.length=true
 z0:sY (gt Z e.e0)
 z1:sY (gt Z e.e1)
 ne:gt Z e.e0≠gt Z e.e1
 lt:e.e0<e.e1
theorem Cr.bd{Z:List Int}{level:Int}{e:K2}(h:Cr Z level e):0<=e.e0/\e.e0<e.e1/\e.e1<Z.length:=by
 have a:=iK.1 h.i0;have b:=iK.1 h.i1;have:=h.lt;omega
theorem sW{Z:List Int}{level:Int}(p:Z.length<=40){e f:K2}(he:Cr Z level e)(j:Cr Z level f)(h:kap e=kap f):e=f:=by
 have a:=he.bd;have b:=j.bd;unfold kap at h;obtain⟨e0,e1⟩:=e;obtain⟨f0,f1⟩:=f;dsimp only at*;have m:e0=f0:=by omega
 subst m;have h1:e1=f1:=by omega
 rw[h1]
def crE(Z:List Int)(level:Int)(e:K2):Rat:=Rat.divInt (level-2*gt Z e.e0) (2*(gt Z e.e1-gt Z e.e0))
theorem vW{g:aj}{level:Int}(m:-2097153<=level/\level<=2097153){e:K2}(h:Cr g.Z level e):cv 20000 g level e=some (crP g level e)/\(crP g level e).A=e.e0/\(crP g level e).B=e.e1/\Qx (crP g level e).At (crE g.Z level e) 3:=by
 have key:Ok (cv 20000 g level e) fun c=>c.A=e.e0/\c.B=e.e1/\Qx c.At (crE g.Z level e) 3:=by
  unfold cv;have a:=h.z0;have b:=h.z1;have n:=h.ne;unfold sY at a b;refine Ok.gd h.i0 (Ok.gd h.i1 ?_);rw[wrap64_in (n:=2*gt g.Z e.e0) (by omega) (by omega),wrap64_in (n:=level-2*gt g.Z e.e0) (by omega) (by omega),wrap64_in (n:=gt g.Z e.e1-gt g.Z e.e0) (by omega) (by omega),wrap64_in (n:=2*(gt g.Z e.e1-gt g.Z e.e0)) (by omega) (by omega)];refine Ok.bd (Iw (by omega) (by omega) (by omega) (by omega) (by omega) (by omega)) ?_;rintro v ⟨j,-⟩;exact aC.2 ⟨rfl,rfl,j⟩
 obtain⟨c,e1,e2⟩:=key;have:crP g level e=c:=by unfold crP;rw[e1];rfl
 rw[this];exact⟨e1,e2⟩
theorem CC{g:aj}{level:Int}{w h:Nat}(E:Gd g w h)(I:g.Z.any pO=false):Ge (oa g w h level) (Cr g.Z level):=by
 refine⟨fun q z=>?_⟩;unfold oa at z;obtain⟨t,J,e⟩:=List.mem_filterMap.1 z;have m:=Ka I E J;have t0:=m 0 (by omega);have t1:=m 1 (by omega);have t2:=m 2 (by omega);change inR t.e0 g.Z.length=true/\sY (gt g.Z t.e0)at t0;change inR t.e1 g.Z.length=true/\sY (gt g.Z t.e1)at t1;change inR t.e2 g.Z.length=true/\sY (gt g.Z t.e2)at t2;have j:∀{a b:Int},(a,b)∈dE t->(inR a g.Z.length=true/\sY (gt g.Z a))/\inR b g.Z.length=true/\sY (gt g.Z b):=by
  intro a b h;simp only[dE,List.mem_cons,List.not_mem_nil,or_false,Prod.mk.injEq]at h;rcases h with⟨rfl,rfl⟩|⟨rfl,rfl⟩|⟨rfl,rfl⟩
  ·exact⟨t0,t1⟩
  ·exact⟨t1,t2⟩
  ·exact⟨t2,t0⟩
 have mk:∀{a b:Int},(a,b)∈dE t->abv g.Z level a≠abv g.Z level b->Cr g.Z level (A2.mk (mn a b) (mx a b)):=by
  intro a b hm M;obtain⟨⟨C,a2⟩,D,b2⟩:=j hm;have p:gt g.Z a≠gt g.Z b:=fun h=>M (by unfold abv;rw[h])
  have N:a≠b:=fun h=>p (by rw[h])
  unfold mn mx;by_cases h:b<a
  ·rw[if_pos h,if_neg (by omega)];exact⟨D,C,b2,a2,fun k=>p k.symm,h⟩
  ·rw[if_neg h,if_pos (by omega)];exact⟨C,D,a2,b2,p,by show a<b;omega⟩
 obtain⟨⟨a,b,m1,x1,O,e1⟩,⟨c,d,m2,x2,T,e2⟩⟩:=oe e;rw[e1,e2];exact⟨mk m1 (by rw[x1,O];simp),mk m2 (by rw[x2,T];simp)⟩
def fK(c:ak):K2:=A2.mk (gt c.Points 0).A (gt c.Points 0).B
def kC(c:ak):Int:=kap (fK c)
def okC(c:ak):Prop:=0<c.Points.length/\0<=(fK c).e0/\(fK c).e0<40/\0<=(fK c).e1/\(fK c).e1<40
theorem yB{a b:K2}(j:0<=a.e0/\a.e0<40/\0<=a.e1/\a.e1<40)(m:0<=b.e0/\b.e0<40/\0<=b.e1/\b.e1<40):∃c,fe 20000 a b=some c/\(c<0↔kap a<kap b):=by
 unfold fe kap;by_cases h:a.e0=b.e0
 ·rw[show(a.e0 !=b.e0)=false by simpa using h];refine⟨_,rfl,?_⟩;rw[wrap64_in (by omega) (by omega)];omega
 ·rw[show(a.e0 !=b.e0)=true by simpa using h];refine⟨_,rfl,?_⟩;rw[wrap64_in (by omega) (by omega)];omega
theorem CW{c:ak}(h:okC c):fB 20000 c=some (fK c):=by
 unfold fB;rw[show inR 0 c.Points.length=true by rw[iK];have:=h.1;omega];rfl
theorem FF{a b:ak}(j:okC a)(m:okC b):∃c,ij 20000 a b=some c/\(c<0↔kC a<kC b):=by
 obtain⟨c,e,h⟩:=yB (a:=fK a) (b:=fK b) j.2 m.2;refine⟨c,?_,h⟩;unfold ij;rw[CW j,CW m];show bdO (fe 20000 (fK a) (fK b)) _=_;rw[e];rfl
theorem A1{α β:Type}{f:α->β}{p:β->Int}{q:α->Int}{x:α}:∀{l:List α},(∀y∈l,p (f y)=q y)->p (f x)=q x->lL (ltK p) (f x) (l.map f)=(lL (ltK q) x l).map f
 |[],_,_=>rfl
 |y::l,h,j=>by
  have m:=h y (by simp);show(if decide (p (f y)<p (f x))=true then f y::lL (ltK p) (f x) (l.map f)else f x::f y::l.map f)=(if decide (q y<q x)=true then y::lL (ltK q) x l else x::y::l).map f;rw[m,j];split
  ·rw[List.map_cons,A1 (fun z C=>h z (List.mem_cons_of_mem _ C)) j]
  ·rfl
theorem yg{α β:Type}{f:α->β}{p:β->Int}{q:α->Int}:∀{l:List α},(∀y∈l,p (f y)=q y)->iX (ltK p) (l.map f)=(iX (ltK q) l).map f
 |[],_=>rfl
 |x::l,h=>by
  show lL (ltK p) (f x) (iX (ltK p) (l.map f))=(lL (ltK q) x (iX (ltK q) l)).map f;rw[yg fun y j=>h y (List.mem_cons_of_mem _ j)];exact A1 (fun y j=>h y (by
   rw[jN]at j;exact List.mem_cons_of_mem _ j)) (h x (by simp))
theorem Jw{l:List ak}(z:l.length<=200)(h:∀c∈l,okC c)(p:l.Pairwise fun a b=>kC a≠kC b):aJ 20000 l=some (iX (ltK kC) l):=by
 unfold aJ;rw[decide_eq_true (show l.length<4611686018427387904 by omega)];refine yc (fun x y j m=>FF (h x j) (h y m)) fun x y j m e=>?_
 apply Classical.byContradiction;intro q;exact Cj (R:=fun a b=>kC a≠kC b) (fun a b h k=>h k.symm) p x j y m q e
theorem DZ{l:List K2}(C:l.length<=200)(h:∀e∈l,0<=e.e0/\e.e0<40/\0<=e.e1/\e.e1<40):aH 20000 l=some (iX (ltK kap) l):=by
 unfold aH;rw[decide_eq_true (show l.length<4611686018427387904 by omega)];refine yc (fun x y j m=>yB (h x j) (h y m)) fun x y j m e=>?_
 have a:=h x j;have b:=h y m;unfold kap at e;obtain⟨x0,x1⟩:=x;obtain⟨p,q⟩:=y;dsimp only at*;have z:x0=p:=by omega
 subst z;have h1:x1=q:=by omega
 rw[h1]
end Go.L

