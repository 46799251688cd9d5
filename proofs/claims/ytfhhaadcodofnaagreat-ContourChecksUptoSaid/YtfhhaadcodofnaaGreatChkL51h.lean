import Derived.Test.YtfhhaadcodofnaaGreatChkL51e
import Derived.Test.YtfhhaadcodofnaaGreatChkL51p
set_option linter.all false
namespace Go.L
open Go Go.Eng
theorem Az{α:Type}{R:α->α->Prop}(hs:∀a b,R a b->R b a):∀{l:List α},l.Pairwise R->∀a∈l,∀b∈l,a≠b->R a b
 |[],_,_,h,_,_,_=>by cases h
 |x::l,hp,a,ha,b,hb,q=>by
  rw[List.pairwise_cons]at hp;rcases List.mem_cons.1 ha with rfl|j<;>rcases List.mem_cons.1 hb with rfl|m
  ·exact absurd rfl q
  ·exact hp.1 b m
  ·exact hs _ _ (hp.1 a j)
  ·exact Az hs hp.2 a j b m q
section
variable{S:List (K2×K2)}
abbrev nxt(S:List (K2×K2))(x:K2):K2:=getM (A2.mk 0 0) S x
theorem Ag(j:S.Pairwise Rq){x y:K2}(hx:de S x=true)(m:de S y=true)(e:nxt S x=nxt S y):x=y:=by
 apply Classical.byContradiction;intro q;have h1:=sc (z:=(A2.mk 0 0:K2)) hx;have h2:=sc (z:=(A2.mk 0 0:K2)) m;have:=Az (R:=Rq) (fun a b h=>⟨fun e=>h.1 e.symm,fun e=>h.2 e.symm⟩) j _ h1 _ h2 (fun e=>q (congrArg Prod.fst e));exact this.2 e
def isS(S:List (K2×K2))(e:K2):Prop:=∀x,de S x=true->nxt S x≠e
theorem CM{e j:K2}(h:isS S e)(hm:e∈path S j):e=j:=by
 rcases CP 100 _ j e hm with h1|⟨x,_,hx,h1⟩
 ·exact h1
 ·exact absurd h1.symm (h x hx)
structure Op (S:List (K2×K2)) (cr:K2->ah) (L:List K2) (c:List (K2×Bool)×List aa):Prop where
 cl:Cl S (dn c.1)
 mem:∀x,dn c.1 x=true↔∃e∈L,x∈path S e
 out:c.2=L.map fun e=>aa.mk false ((path S e).map cr)
theorem C3{cr:K2->ah}:Op S cr [] ([],[]):=⟨fun x _=>Iff.rfl,fun x=>by simp[dn,getM],rfl⟩
theorem Op.step(C:S.Pairwise Rq)(E:S.length<=60){cr:K2->ah}{L:List K2}{c:List (K2×Bool)×List aa}(h:Op S cr L c){e:K2}(he:isS S e)(z:e∉L):
  dn c.1 e=false/\W S 100 (dn c.1) e=path S e/\Op S cr (L++[e]) (kD c.1 (path S e),c.2++[aa.mk false ((path S e).map cr)]):=by
 have hd:dn c.1 e=false:=by
  cases hc:dn c.1 e with
  |false=>rfl
  |true=>
   obtain⟨m,j,hm⟩:=(h.mem e).1 hc;rw[CM he hm]at z;exact absurd j z
 refine⟨hd,Iy h.cl hd,⟨fun x hx=>?_,fun x=>?_,?_⟩⟩
 ·rw[qg,qg];constructor
  ·rintro(hp|hp)
   ·rcases Cu 100 (fun _=>false) e x _ (by have:=Dv S (fun _=>false);omega) hp hx rfl with h1|h1
    ·exact .inl h1
    ·cases h1
   ·exact .inr ((h.cl x hx).1 hp)
  ·rintro(hp|hp)
   ·rcases CP 100 _ e _ hp with h1|⟨y,D,q,h1⟩
    ·exact absurd h1 (he x hx)
    ·rw[Ag C hx q h1];exact .inl D
   ·exact .inr ((h.cl x hx).2 hp)
 ·rw[qg,h.mem];constructor
  ·rintro(hp|⟨m,j,hp⟩)
   ·exact⟨e,by simp,hp⟩
   ·exact⟨m,by simp[j],hp⟩
  ·rintro⟨m,j,hp⟩;rcases List.mem_append.1 j with h1|h1
   ·exact .inr ⟨m,h1,hp⟩
   ·rw[List.mem_singleton]at h1;subst h1;exact .inl hp
 ·rw[List.map_append,h.out];rfl
def CLs(S:List (K2×K2)):List K2->(K2->Bool)->List (List K2)
 |[],_=>[]
 |e::L,D=>if D e=true then CLs S L D else W S 100 D e::CLs S L (fun x=>(W S 100 D e).contains x||D x)
theorem zh(l:List K2)(D:List (K2×Bool)):dn (kD D l)=fun x=>l.contains x||dn D x:=by
 funext x;have:=qg l D x;cases h:dn (kD D l) x with
 |true=>
  rcases this.1 h with h|h
  ·simp[h]
  ·simp[h]
 |false=>
  rw[h]at this;have j:¬x∈l:=fun k=>by have:=this.2 (.inl k);cases this
  have m:dn D x=false:=by
   cases hc:dn D x with
   |false=>rfl
   |true=>have:=this.2 (.inr hc);cases this
  rw[m];simp[j]
theorem BZ{e:K2}{L:List K2}{D:K2->Bool}(h:D e=true):CLs S (e::L) D=CLs S L D:=by
 conv=>lhs;unfold CLs
 rw[if_pos h]
theorem DJ{e:K2}{L:List K2}{D:List (K2×Bool)}(h:dn D e=false):CLs S (e::L) (dn D)=W S 100 (dn D) e::CLs S L (dn (kD D (W S 100 (dn D) e))):=by
 conv=>lhs;unfold CLs
 rw[if_neg (by simp[h]),zh]
theorem AO:∀(L:List K2) (D:K2->Bool),(CLs S L D).length<=L.length
 |[],_=>Nat.le_refl _
 |e::L,D=>by
  unfold CLs;split
  ·have:=AO L D;rw[List.length_cons];omega
  ·have:=AO L (fun x=>(W S 100 D e).contains x||D x);rw[List.length_cons,List.length_cons];omega
theorem qi:∀(L:List K2) (D:K2->Bool),(∀l∈CLs S L D,∃e t,l=e::t/\e∈L/\D e=false)/\(CLs S L D).Pairwise (fun l m=>l.head?≠m.head?)
 |[],_=>⟨fun l h=>(by cases h),.nil⟩
 |e::L,D=>by
  unfold CLs;by_cases hd:D e=true
  ·rw[if_pos hd];obtain⟨h1,h2⟩:=qi L D;exact⟨fun l j=>by obtain⟨a,t,e1,e2,q⟩:=h1 l j;exact⟨a,t,e1,List.mem_cons_of_mem _ e2,q⟩,h2⟩
  ·have hd:D e=false:=by simpa using hd
   rw[if_neg (by simp[hd])];obtain⟨h1,h2⟩:=qi L (fun x=>(W S 100 D e).contains x||D x);obtain⟨t0,z⟩:=AM (S:=S) (f:=100) (by omega) hd;refine⟨fun l j=>?_,List.pairwise_cons.2 ⟨fun l j=>?_,h2⟩⟩
   ·rcases List.mem_cons.1 j with rfl|j
    ·exact⟨e,t0,z,by simp,hd⟩
    ·obtain⟨a,t,e1,e2,q⟩:=h1 l j;exact⟨a,t,e1,List.mem_cons_of_mem _ e2,by rw[Bool.or_eq_false_iff]at q;exact q.2⟩
   ·obtain⟨a,t,e1,e2,q⟩:=h1 l j;rw[z,e1];intro h;have h:e=a:=by simpa using h
    rw[Bool.or_eq_false_iff]at q;have:=q.1;rw[z,h]at this;simp at this
end
end Go.L


set_option linter.all false
namespace Go.L
open Go Go.Eng
theorem um{S:List (K2×K2)}(j:S.Pairwise Rq){e:K2}(h:getM false (S.map fun q=>(q.2,true)) e=false):isS S e:=by
 rintro x hx rfl;have hm:=sc (z:=(A2.mk 0 0:K2)) hx;have:getM false (S.map fun q=>(q.2,true)) (nxt S x)=true:=xL (by
  rw[List.pairwise_map];exact j.imp fun h=>h.2) (List.mem_map.2 ⟨_,hm,rfl⟩)
 rw[this]at h;cases h
def bk(S:List (K2×K2)):List (K2×Bool):=S.map fun q=>(q.2,true)
def opn(S:List (K2×K2))(e:K2):Bool:=!getM false (bk S) e
def toC(cr:K2->ah)(b:Bool)(l:List K2):aa:=aa.mk b (l.map cr)
theorem pM{α:Type}[Inhabited α]{l:List α}{k:Nat}(h:k<l.length):gt l (k:Int)=l[k]:=by
 rw[jo];simp[List.getD,geT h]
theorem qo{α:Type}{l:List α}{k:Nat}(h:k<l.length):l.take (k+1)=l.take k++[l[k]]:=by
 rw[List.take_add_one,geT h];rfl
theorem yF{l:List K2}{k:Nat}(h:k<l.length)(j:l.Nodup):l[k]∉l.take k:=by
 have h1:(l.take (k+1)).Nodup:=j.sublist (List.take_sublist _ _);rw[qo h]at h1;intro hm;exact(List.nodup_append.1 h1).2.2 _ hm _ (by simp) rfl
theorem FH{g:an}{level:Int}{S:List (K2×K2)}{P:K2->Prop}(E:S.Pairwise Rq)(I:Ge S P)(J:∀e,P e->dh 20000 g level e=some (crP g level e))(z:S.length<=60)
  {K:List K2} (N:K.Nodup) (O:K.length<=60) (q:∀e∈K,P e) {F:List aa->List aa}
  (T:∀c,Op S (crP g level) (K.filter (opn S)) c->aM 20000 (c.2++(CLs S K (dn c.1)).map (toC (crP g level) true))=some (F (c.2++(CLs S K (dn c.1)).map (toC (crP g level) true)))/\
   (F (c.2++(CLs S K (dn c.1)).map (toC (crP g level) true))).length=(c.2++(CLs S K (dn c.1)).map (toC (crP g level) true)).length):
  Ok (sH 20000 g level (S,bk S) (K.length:Int) K) fun r=>∃c,Op S (crP g level) (K.filter (opn S)) c/\r=F (c.2++(CLs S K (dn c.1)).map (toC (crP g level) true)):=by
 unfold sH;refine Ok.bd (R:=fun c=>Op S (crP g level) (K.filter (opn S)) c/\c.2.length<=60) ?_ ?_
 ·refine eC (γ:=List (K2×Bool)×List aa) (len:=K.length) (fun c x=>(c.1,c.2,x)) (fun k c=>Op S (crP g level) ((K.take k).filter (opn S)) c/\c.2.length<=k) (by omega) (by omega) (c0:=([],[])) ⟨C3,by simp⟩ ?_ ?_
  ·rintro again k c hk ⟨hO,hc⟩ j;have e1:=pM hk;have e2:(K.take (k+1)).filter (opn S)=(K.take k).filter (opn S)++(if opn S K[k]=true then[K[k]]else[]):=by
    rw[qo hk,List.filter_append];by_cases h:opn S K[k]=true
    ·rw[if_pos h];simp[h]
    ·rw[if_neg h];simp[h]
   have hm:K[k]∉(K.take k).filter (opn S):=fun h=>yF hk N (List.mem_filter.1 h).1
   have hp:=q _ (List.getElem_mem hk);rw[e2]at j;refine Ok.cd (fun _=>?_) (fun h=>by have:=dcF h;omega);refine Ok.gd (by rw[bj];exact decide_eq_true hk) ?_;rw[e1];refine Ok.cd (fun h=>?_) (fun h=>?_)
   ·have h:opn S K[k]=true:=h;rw[if_pos h]at j;have C:isS S K[k]:=um E (by unfold opn bk at h;simpa using h);obtain⟨hd,U,D⟩:=hO.step E z C hm;refine Ok.bde (BH I J z hp hd (by omega)) ?_;rw[U];exact j (kD c.1 (path S K[k]),c.2++[aa.mk false ((path S K[k]).map (crP g level))]) ⟨D,by dsimp only;rw[List.length_append,List.length_singleton];omega⟩
   ·have h:opn S K[k]=false:=h;rw[if_neg (by rw[h];simp),List.append_nil]at j;exact j c ⟨hO,by omega⟩
  ·rintro again c ⟨hO,hc⟩;rw[List.take_length]at hO;exact Ok.cd (fun h=>by have:=dcT h;omega) (fun _=>aw.2 ⟨hO,show c.2.length<=60 by omega⟩)
 ·rintro c0 ⟨hO,Y⟩;refine Ok.bd (R:=fun o=>o=c0.2++(CLs S K (dn c0.1)).map (toC (crP g level) true)) ?_ ?_
  ·refine eC (γ:=List (K2×Bool)×List aa) (len:=K.length) (fun c x=>(c.1,c.2,x)) (fun k c=>c.2++(CLs S (K.drop k) (dn c.1)).map (toC (crP g level) true)=c0.2++(CLs S K (dn c0.1)).map (toC (crP g level) true)/\c.2.length<=60+k) (by omega) (by omega) (c0:=c0) ⟨rfl,by omega⟩ ?_ ?_
   ·rintro again k c hk ⟨m,hc⟩ j;have hp:=q _ (List.getElem_mem hk);rw[List.drop_eq_getElem_cons hk]at m;refine Ok.cd (fun _=>?_) (fun h=>by have:=dcF h;omega);refine Ok.gd (by rw[bj];exact decide_eq_true hk) ?_;rw[pM hk];refine Ok.cd (fun h=>?_) (fun h=>?_)
    ·have h:dn c.1 K[k]=false:=by
      have:(!dn c.1 K[k])=true:=h;simpa using this
     refine Ok.bde (BH I J z hp h (by omega)) ?_;rw[DJ h,List.map_cons]at m;refine j (kD c.1 (W S 100 (dn c.1) K[k]),c.2++[aa.mk true ((W S 100 (dn c.1) K[k]).map (crP g level))]) ⟨?_,by dsimp only;rw[List.length_append,List.length_singleton];omega⟩;rw[<-m,List.append_assoc];rfl
    ·have h:dn c.1 K[k]=true:=by
      have:(!dn c.1 K[k])=false:=h;simpa using this
     rw[BZ h]at m;exact j c ⟨m,by omega⟩
   ·rintro again c ⟨m,hc⟩;rw[List.drop_length]at m;refine Ok.cd (fun h=>by have:=dcT h;omega) (fun _=>aw.2 ?_);rw[<-m];show c.2=c.2++[];rw[List.append_nil]
  ·rintro o rfl;obtain⟨f1,f2⟩:=T c0 hO;refine Ok.bde f1 (Ok.gd (decide_eq_true f2) (aw.2 ⟨c0,hO,rfl⟩))
end Go.L


set_option linter.all false
namespace Go.L
open Go Go.Eng
def yu(S:List (K2×K2))(a b d:Nat):List K2:=((List.range' b d).map fun c:Nat=>(A2.mk (a:Int) (c:Int):K2)).filter (de S)
def lD(S:List (K2×K2))(m a d:Nat):List K2:=(List.range' a d).flatMap fun a=>yu S a (a+1) (m-(a+1))
theorem En{S:List (K2×K2)}{a b d:Nat}:yu S a b (d+1)=(if de S (A2.mk (a:Int) (b:Int))=true then[A2.mk (a:Int) (b:Int)]else[])++yu S a (b+1) d:=by
 unfold yu;rw[List.range'_succ,List.map_cons,List.filter_cons];split<;>rfl
theorem CY{S:List (K2×K2)}{m a d:Nat}:lD S m a (d+1)=yu S a (a+1) (m-(a+1))++lD S m (a+1) d:=by
 unfold lD;rw[List.range'_succ,List.flatMap_cons]
theorem Fg{g:an}{level:Int}{w h:Nat}(hg:Gd g w h)(hb:g.Z.any qM=false)(b9:g.Z.length<=40){S:List (K2×K2)}(eS:tG g w h level=S){P:K2->Prop}(hS:S.Pairwise Rq)(hG:Ge S P)
  (hP:∀e,P e->bX 20000 g level e=some (crR g level e)) (hl:S.length<=60) {F:List aa->List aa}
  (hF:∀c,Op S (crR g level) ((S.map (·.1)).filter (opn S)) c->∀out,out=c.2++(CLs S (lD S g.Z.length 0 g.Z.length) (dn c.1)).map (toC (crR g level) true)->Ok (aP (α:=List aa×Int) (β:=List aa) 20000 (fun O (N,Y)=>(
            cdO (decide (Y<(out.length:Int))) (
             bdO (aP (α:=List aa×Int) (β:=List aa) 20000 (fun T (j,z)=>(
              cdO (decide (z>0)) (
               gdO (inR z j.length) (
               bdO (bM 20000 (gt j z)) fun b0=>(
               gdO (inR (Ki (z-1)) j.length) (
               bdO (bM 20000 (gt j (Ki (z-1)))) fun b1=>(
               bdO (dV 20000 b0 b1) fun b3=>(
               cdO b3 (
                T ((j.set z.toNat (gt j (Ki (z-1)))).set (Ki (z-1)).toNat (gt j z),Ki (z-1))
               ) (
                some (j)
               )
               )
               )
               )
               )
               )
              ) (
               some (j)
              )
             )) (N,Y)) fun a1=>(
              O (a1,Ki (Y+1))
             )
            ) (
             some (N)
            )
   )) (out,0)) fun r=>r=F out):
  Ok (fF 20000 g level) fun r=>∃c,Op S (crR g level) ((S.map (·.1)).filter (opn S)) c/\r=F (c.2++(CLs S (lD S g.Z.length 0 g.Z.length) (dn c.1)).map (toC (crR g level) true)):=by
 have hT:(lU g w h).length<=8000:=by
  have h1:=List.length_filter_le (pg g.Z) (oq g.Width (w-1) (h-1));rw[xG,Nat.mul_assoc]at h1;have:=Nat.mul_le_mul (show w-1<=63 by have:=hg.w1;omega) (show h-1<=63 by have:=hg.h1;omega);unfold lU;omega
 have hk:∀q∈S,de S q.1=true:=fun q hq=>jA.2 ⟨q,hq,rfl⟩
 have b5:(S.map (·.1)).Nodup:=by
  unfold List.Nodup;rw[List.pairwise_map];exact hS.imp fun h=>h.1
 unfold fF;refine Ok.bde (Ic (by omega) hg hb hT) ?_;rw[eS];refine Ok.bd (R:=fun o=>o=(S,bk S)) ?_ ?_
 ·refine eC (γ:=List (K2×K2)×List (K2×Bool)) (len:=S.length) (fun c x=>(c.1,c.2,x)) (fun k c=>c=(S.take k,(S.take k).map fun q=>(q.2,true))) (by omega) (by omega) (c0:=([],[])) rfl ?_ ?_
  ·rintro again k c U rfl ih;dsimp only;have a6:k<(S.map fun q=>(A2.mk q.1 q.2:A2 K2)).length:=by rw[List.length_map];exact U
   refine Ok.cd (fun _=>?_) (fun h=>by have:=dcF h;rw[List.length_map]at this;omega);refine Ok.gd (by rw[bj];exact decide_eq_true a6) ?_;rw[pM a6,List.getElem_map];refine ih (stM (S.take k,(S.take k).map fun q=>(q.2,true)) S[k]) ?_;have hs:(S.take (k+1)).Pairwise Rq:=hS.sublist (List.take_sublist _ _);rw[qo U]at hs ⊢;have:=xN [S[k]] (S.take k) hs;exact this
  ·rintro again c rfl;refine Ok.cd (fun h=>by have:=dcT h;rw[List.length_map]at this;omega) (fun _=>aw.2 ?_);dsimp only;rw[List.take_length];rfl
 rintro o rfl;dsimp only;refine Ok.bd (R:=fun c=>Op S (crR g level) ((S.map (·.1)).filter (opn S)) c/\c.2.length<=60) ?_ ?_
 ·refine eC (γ:=List (K2×Bool)×List aa) (len:=S.length) (fun c x=>(c.1,c.2,x)) (fun k c=>Op S (crR g level) (((S.map (·.1)).take k).filter (opn S)) c/\c.2.length<=k) (by omega) (by omega) (c0:=([],[])) ⟨C3,by simp⟩ ?_ ?_
  ·rintro again k c U ⟨hO,hc⟩ ih;have a6:k<(S.map fun q=>(A2.mk q.1 q.2:A2 K2)).length:=by rw[List.length_map];exact U
   have b4:k<(S.map (·.1)).length:=by rw[List.length_map];exact U
   have e2:((S.map (·.1)).take (k+1)).filter (opn S)=((S.map (·.1)).take k).filter (opn S)++(if opn S S[k].1=true then[S[k].1]else[]):=by
    rw[qo b4,List.filter_append,List.getElem_map];by_cases h:opn S S[k].1=true
    ·rw[if_pos h];simp[h]
    ·rw[if_neg h];simp[h]
   have hm:S[k].1∉((S.map (·.1)).take k).filter (opn S):=fun h=>by
    have:=yF b4 b5;rw[List.getElem_map]at this;exact this (List.mem_filter.1 h).1
   have hp:=(hG.k _ (List.getElem_mem U)).1;rw[e2]at ih;dsimp only;refine Ok.cd (fun _=>?_) (fun h=>by have:=dcF h;rw[List.length_map]at this;omega);refine Ok.gd (by rw[bj];exact decide_eq_true a6) ?_;rw[pM a6,List.getElem_map];refine Ok.cd (fun h=>?_) (fun h=>?_)
   ·have h:opn S S[k].1=true:=h;rw[if_pos h]at ih;have b6:isS S S[k].1:=um hS (by unfold opn bk at h;simpa using h);obtain⟨hd,hW,b7⟩:=hO.step hS hl b6 hm;refine Ok.bde (Bv hG hP hl hp (by omega)) ?_;rw[hW];exact ih (kD c.1 (path S S[k].1),c.2++[aa.mk false ((path S S[k].1).map (crR g level))]) ⟨b7,by dsimp only;rw[List.length_append,List.length_singleton];omega⟩
   ·have h:opn S S[k].1=false:=h;rw[if_neg (by rw[h];simp),List.append_nil]at ih;exact ih c ⟨hO,by omega⟩
  ·rintro again c ⟨hO,hc⟩;rw[List.take_of_length_le (by rw[List.length_map];omega)]at hO;dsimp only;exact Ok.cd (fun h=>by have:=dcT h;rw[List.length_map]at this;omega) (fun _=>aw.2 ⟨hO,show c.2.length<=60 by omega⟩)
 rintro c0 ⟨hO,c3⟩;refine Ok.bd (R:=fun o=>o=c0.2++(CLs S (lD S g.Z.length 0 g.Z.length) (dn c0.1)).map (toC (crR g level) true)) ?_ ?_
 ·refine eC (γ:=List (K2×Bool)×List aa) (len:=g.Z.length) (fun c x=>(c.1,c.2,x)) (fun a c=>c.2++(CLs S (lD S g.Z.length a (g.Z.length-a)) (dn c.1)).map (toC (crR g level) true)=c0.2++(CLs S (lD S g.Z.length 0 g.Z.length) (dn c0.1)).map (toC (crR g level) true)/\c.2.length<=60+a*40) (by omega) (by omega) (c0:=c0) ⟨rfl,by omega⟩ ?_ ?_
  ·rintro again a c ha ⟨J,hc⟩ ih;rw[show g.Z.length-a=(g.Z.length-(a+1))+1 by omega,CY]at J;dsimp only;refine Ok.cd (fun _=>?_) (fun h=>by have:=dcF h;omega);refine Ok.bd (R:=fun o=>o.2++(CLs S (lD S g.Z.length (a+1) (g.Z.length-(a+1))) (dn o.1)).map (toC (crR g level) true)=c0.2++(CLs S (lD S g.Z.length 0 g.Z.length) (dn c0.1)).map (toC (crR g level) true)/\o.2.length<=60+(a+1)*40) ?_ (fun o ho=>ih o ho);rw[wrap64_in (by omega) (by omega),show((a:Int)+1)=((a+1:Nat):Int)by omega];have key:∀(d b m:Nat) (c:List (K2×Bool)×List aa),b+d=g.Z.length->d<m->c.2.length+d<=60+(a+1)*40->c.2++(CLs S (yu S a b d++lD S g.Z.length (a+1) (g.Z.length-(a+1))) (dn c.1)).map (toC (crR g level) true)=c0.2++(CLs S (lD S g.Z.length 0 g.Z.length) (dn c0.1)).map (toC (crR g level) true)->
     Ok (aP (α:=List (K2×Bool)×List aa×Int) (β:=List (K2×Bool)×List aa) m (fun E (C,D,I)=>(
           cdO (decide (I<(g.Z.length:Int))) (
            cdO (de S (A2.mk (a:Int) I)) (
             cdO (!(getM false C (A2.mk (a:Int) I))) (
              bdO (dj 20000 (A2.mk (a:Int) I) true C S g.X0 g.Y0 g.Step g.Width g.Height g.Z level D) fun v75=>(
              E (v75.1,v75.2,Ki (I+1))
              )
             ) (
              E (C,D,Ki (I+1))
             )
            ) (
             E (C,D,Ki (I+1))
            )
           ) (
            some ((C,D))
           ))) (c.1,c.2,(b:Int))) fun o=>o.2++(CLs S (lD S g.Z.length (a+1) (g.Z.length-(a+1))) (dn o.1)).map (toC (crR g level) true)=c0.2++(CLs S (lD S g.Z.length 0 g.Z.length) (dn c0.1)).map (toC (crR g level) true)/\o.2.length<=60+(a+1)*40:=by
    intro d;induction d with
    |zero=>
     intro b m c b8 hm hc J;obtain⟨m,rfl⟩:∃k,m=k+1:=⟨m-1,by omega⟩;rw[lX];refine Ok.cd (fun h=>by have:=dcT h;omega) (fun _=>aw.2 ⟨J,show c.2.length<=_ by omega⟩)
    |succ d a8=>
     intro b m c b8 hm hc J;obtain⟨m,rfl⟩:∃k,m=k+1:=⟨m-1,by omega⟩;have nx:Ki ((b:Int)+1)=((b+1:Nat):Int):=by rw[wrap64_in (by omega) (by omega)];omega
     rw[En]at J;rw[lX];dsimp only;rw[nx];clear nx;refine Ok.cd (fun _=>?_) (fun h=>by have:=dcF h;omega);cases hh:de S (A2.mk (a:Int) (b:Int))with
     |false=>
      rw[hh,if_neg (by simp),List.nil_append]at J;exact Ok.cd (fun h=>by cases h) (fun _=>a8 (b+1) m c (by omega) (by omega) (by omega) J)
     |true=>
      rw[hh,if_pos rfl,List.append_assoc]at J;have hp:P (A2.mk (a:Int) (b:Int)):=by
       obtain⟨q,hq,e⟩:=jA.1 hh;rw[<-e];exact(hG.k q hq).1
      refine Ok.cd (fun _=>Ok.cd (fun h=>?_) (fun h=>?_)) (fun h=>by cases h)
      ·have h:dn c.1 (A2.mk (a:Int) (b:Int))=false:=by
        have:(!dn c.1 (A2.mk (a:Int) (b:Int)))=true:=h;simpa using this
       have J:c.2++(CLs S (A2.mk (a:Int) (b:Int)::(yu S a (b+1) d++lD S g.Z.length (a+1) (g.Z.length-(a+1)))) (dn c.1)).map (toC (crR g level) true)=_:=J;rw[DJ h,List.map_cons]at J;have c4:(a+1)*40<=40*40:=Nat.mul_le_mul_right 40 (by omega);refine Ok.bde (Bv hG hP hl hp (by omega)) ?_;refine a8 (b+1) m (kD c.1 (W S 100 (dn c.1) (A2.mk (a:Int) (b:Int))),c.2++[aa.mk true ((W S 100 (dn c.1) (A2.mk (a:Int) (b:Int))).map (crR g level))]) (by omega) (by omega) (by dsimp only;rw[List.length_append,List.length_singleton];omega) ?_;rw[<-J,List.append_assoc];rfl
      ·have h:dn c.1 (A2.mk (a:Int) (b:Int))=true:=by
        have:(!dn c.1 (A2.mk (a:Int) (b:Int)))=false:=h;simpa using this
       have J:c.2++(CLs S (A2.mk (a:Int) (b:Int)::(yu S a (b+1) d++lD S g.Z.length (a+1) (g.Z.length-(a+1)))) (dn c.1)).map (toC (crR g level) true)=_:=J;rw[BZ h]at J;exact a8 (b+1) m c (by omega) (by omega) (by omega) J
   exact key (g.Z.length-(a+1)) (a+1) 20000 c (by omega) (by omega) (by rw[Nat.add_mul];omega) J
  ·rintro again c ⟨J,hc⟩;rw[Nat.sub_self]at J;dsimp only;refine Ok.cd (fun h=>by have:=dcT h;omega) (fun _=>aw.2 ?_);rw[<-J];show c.2=c.2++[];rw[List.append_nil]
 rintro out a7;refine Ok.bd (hF c0 hO out a7) (fun r hr=>aw.2 ⟨c0,hO,by rw[hr,a7]⟩)
end Go.L

