import Derived.Test.YtglimpjlhfjgdaaGreatSldL51L
import Derived.Test.YtglimpjlhfjgdaaGreatSldL51L
import Derived.Test.YtglimpjlhfjgdaaGreatSldLsrt
set_option linter.all false
namespace Go.L
open Go Go.Eng
section
variable{S:List (K2×K2)}
theorem HG{z:K2}:∀{f:Nat} {D:K2->Bool} {e:K2},0<(W S f D e).length->(W S f D e).getD 0 z=e
 |0,D,e,h=>by simp[W]at h
 |f+1,D,e,h=>by
  unfold W at h ⊢;by_cases j:D e=true
  ·rw[if_pos j]at h;simp at h
  ·rw[if_neg j];rfl
theorem EJ{z:K2}:∀(f:Nat) (D:K2->Bool) (e:K2) (k:Nat),k+1<(W S f D e).length->(W S f D e).getD (k+1) z=nxt S ((W S f D e).getD k z)
 |0,D,e,k,h=>by simp[W]at h
 |f+1,D,e,k,h=>by
  unfold W at h ⊢;by_cases j:D e=true
  ·rw[if_pos j]at h;simp at h
  ·rw[if_neg j]at h ⊢;by_cases m:cG S e=true
   ·rw[if_pos m]at h ⊢;rw[List.length_cons]at h;cases k with
    |zero=>exact HG (by omega)
    |succ k=>exact EJ f _ _ k (by omega)
   ·rw[if_neg m]at h;simp at h
theorem De:∀(f:Nat) (D:K2->Bool) (e:K2),(W S f D e).Nodup
 |0,D,e=>by simp[W]
 |f+1,D,e=>by
  unfold W;by_cases j:D e=true
  ·rw[if_pos j];simp
  ·rw[if_neg j];by_cases m:cG S e=true
   ·rw[if_pos m,List.nodup_cons];refine⟨fun hm=>?_,De f _ _⟩;have:=Dn f _ _ _ hm;simp at this
   ·rw[if_neg m];simp
theorem wU{l:List K2}{x:K2}(h:x∈l)(z:K2):∃k,k<l.length/\l.getD k z=x:=by
 obtain⟨k,hk,e⟩:=List.getElem_of_mem h;exact⟨k,hk,by simp[List.getD,geT hk,e]⟩
theorem mI{l:List K2}{k:Nat}(h:k<l.length)(z:K2):l.getD k z∈l:=by
 simp only[List.getD,geT h,Option.getD_some];exact List.getElem_mem h
theorem getD_inj{l:List K2}(m:l.Nodup){j k:Nat}(p:j<l.length)(hk:k<l.length){z:K2}(e:l.getD j z=l.getD k z):j=k:=by
 simp only[List.getD,geT p,geT hk,Option.getD_some]at e;exact(List.getElem_inj m).1 e
structure Cyc (S:List (K2×K2)) (l:List K2):Prop where
 pos:0<l.length
 nd:l.Nodup
 st:∀x∈l,cG S x=true
 go:∀k,k<l.length->l.getD ((k+1)%l.length) (A2.mk 0 0)=nxt S (l.getD k (A2.mk 0 0))
theorem Cy.fwd(h:Cy S){x:K2}(j:cG S x=true):cG S (nxt S x)=true:=h.fw _ (nU j)
def Led(S:List (K2×K2))(D:K2->Bool):Prop:=∀x,cG S x=true->D x=false->cG S (nxt S x)=true/\D (nxt S x)=false
theorem A9{m:K2->Bool}(h:Led S m):∀(f:Nat) (D:K2->Bool) (e:K2),cG S e=true->m e=false->∀x∈W S f D e,cG S x=true
 |0,_,_,_,_,x,j=>by cases j
 |f+1,D,e,he,p,x,j=>by
  unfold W at j;by_cases q:D e=true
  ·rw[if_pos q]at j;cases j
  ·rw[if_neg q,if_pos he]at j;rcases List.mem_cons.1 j with rfl|j
   ·exact he
   ·exact A9 h f _ _ (h e he p).1 (h e he p).2 x j
theorem KD(hp:S.Pairwise Rq)(Y:S.length<=60){D:K2->Bool}(T:Cl S D)(U:Led S D){e:K2}(he:cG S e=true)(N:D e=false):Cyc S (W S 100 D e)/\e∈W S 100 D e:=by
 have j:=A9 U 100 D e he N;have E:=De (S:=S) 100 D e;have I:=Dn (S:=S) 100 D e;have q:∀x∈W S 100 D e,nxt S x∈W S 100 D e:=fun x C=>by
  rcases BA 100 D e x _ (by have:=Gs S D;omega) C (j x C) rfl with h1|h1
  ·exact h1
  ·have:=I x C;rw[(T x (j x C)).2 h1]at this;cases this
 have p:=EJ (S:=S) (z:=A2.mk 0 0) 100 D e;obtain⟨t,O⟩:=BF (S:=S) (f:=100) (by omega) N;generalize W S 100 D e=l at*;have J:0<l.length:=by rw[O];simp
 refine⟨⟨J,E,j,fun k hk=>?_⟩,by rw[O];simp⟩;by_cases M:k+1<l.length
 ·rw[Nat.mod_eq_of_lt M];exact p k M
 ·have e1:k+1=l.length:=by omega
  rw[e1,Nat.mod_self];have C:=mI hk (A2.mk 0 0);obtain⟨m,hm,em⟩:=wU (q _ C) (A2.mk 0 0);cases m with
  |zero=>exact em
  |succ m=>
   rw[p m hm]at em;have:=zN hp (j _ (mI (by omega) _)) (j _ C) em;have:=getD_inj E (by omega) hk this;omega
theorem CA(hp:S.Pairwise Rq){l:List K2}(m:Cyc S l){x:K2}(q:cG S x=true):x∈l↔nxt S x∈l:=by
 constructor
 ·intro hm;obtain⟨k,hk,rfl⟩:=wU hm (A2.mk 0 0);rw[<-m.go k hk];exact mI (Nat.mod_lt _ m.pos) _
 ·intro hm;obtain⟨k,hk,e⟩:=wU hm (A2.mk 0 0);have key:∃j,j<l.length/\(j+1)%l.length=k:=by
   cases k with
   |zero=>exact⟨l.length-1,by omega,by rw[show l.length-1+1=l.length by omega,Nat.mod_self]⟩
   |succ k=>exact⟨k,by omega,Nat.mod_eq_of_lt hk⟩
  obtain⟨j,p,z⟩:=key;have:=m.go j p;rw[z,e]at this;rw[zN hp q (m.st _ (mI p _)) this];exact mI p _
theorem HF(hp:S.Pairwise Rq){D:K2->Bool}(m:Cl S D){l:List K2}(p:Cyc S l):Cl S (fun x=>l.contains x||D x):=by
 intro x j;have h1:=CA hp p j;have h2:=m x j;simp only[Bool.or_eq_true,List.contains_iff_mem];exact or_congr h1 h2
theorem Fv(hp:S.Pairwise Rq){D:K2->Bool}(p:Led S D){l:List K2}(q:Cyc S l):Led S (fun x=>l.contains x||D x):=by
 intro x m j;simp only[Bool.or_eq_false_iff]at j;obtain⟨a,b⟩:=p x m j.2;refine⟨a,?_⟩;have z:¬nxt S x∈l:=fun k=>by
  have:=(CA hp q m).2 k;simp[this]at j
 simp only[Bool.or_eq_false_iff];exact⟨by simpa using z,b⟩
theorem xn(hp:S.Pairwise Rq)(q:S.length<=60):∀(L:List K2) (D:K2->Bool),Cl S D->Led S D->(∀e∈L,cG S e=true)->
  (CLs S L D).flatten.Nodup/\(∀x∈(CLs S L D).flatten,D x=false)/\(∀e∈L,D e=true\/e∈(CLs S L D).flatten)/\∀l∈CLs S L D,Cyc S l
 |[],D,_,_,_=>by simp[CLs]
 |e::L,D,z,C,E=>by
  unfold CLs;by_cases m:D e=true
  ·rw[if_pos m];obtain⟨a,b,c,d⟩:=xn hp q L D z C fun x j=>E x (List.mem_cons_of_mem _ j)
   refine⟨a,b,fun x j=>?_,d⟩;rcases List.mem_cons.1 j with rfl|j
   ·exact .inl m
   ·exact c x j
  ·have m:D e=false:=by simpa using m
   rw[if_neg (by simp[m])];obtain⟨hc,hm⟩:=KD hp q z C (E e (by simp)) m;have p:=Dn (S:=S) 100 D e;obtain⟨a,b,c,d⟩:=xn hp q L _ (HF hp z hc) (Fv hp C hc) fun x j=>E x (List.mem_cons_of_mem _ j)
   generalize W S 100 D e=l at*;have I:∀x∈(CLs S L fun x=>l.contains x||D x).flatten,x∉l/\D x=false:=fun x j=>by
    have:=b x j;simp only[Bool.or_eq_false_iff]at this;exact⟨by simpa using this.1,this.2⟩
   rw[List.flatten_cons];refine⟨List.nodup_append.2 ⟨hc.nd,a,fun x j y J e=>(I y J).1 (e▸j)⟩,fun x j=>?_,fun x j=>?_,fun x j=>?_⟩
   ·rcases List.mem_append.1 j with j|j
    ·exact p x j
    ·exact(I x j).2
   ·rcases List.mem_cons.1 j with rfl|j
    ·exact .inr (List.mem_append.2 (.inl hm))
    ·rcases c x j with j|j
     ·simp only[Bool.or_eq_true,List.contains_iff_mem]at j;rcases j with j|j
      ·exact .inr (List.mem_append.2 (.inl j))
      ·exact .inl j
     ·exact .inr (List.mem_append.2 (.inr j))
   ·rcases List.mem_cons.1 j with rfl|j
    ·exact hc
    ·exact d x j
theorem Cy.Dl(h:Cy S):opK S=[]:=by
 unfold opK;refine List.filter_eq_nil_iff.2 fun e he=>?_
 obtain⟨q,m,rfl⟩:=iZ.1 (zp.1 he);obtain⟨p,j,z⟩:=h.bw q m;unfold opn;have:getM false (bk S) q.1=true:=qs (by
  unfold bk;rw[List.pairwise_map];exact h.pw.imp fun h=>h.2) (List.mem_map.2 ⟨p,j,by rw[<-z]⟩)
 rw[this];simp
def fR(l:List Int):Int:=l.foldr (·+·) 0
theorem nR:∀(l m:List Int),fR (l++m)=fR l+fR m
 |[],m=>by show fR m=0+fR m;omega
 |x::l,m=>by show x+fR (l++m)=(x+fR l)+fR m;rw[nR l m];omega
theorem yV{l m:List Int}(h:l.Perm m):fR l=fR m:=by
 induction h with
 |nil=>rfl
 |cons x _ q=>unfold fR at*;rw[List.foldr_cons,List.foldr_cons,q]
 |swap x y l=>show y+(x+_)=x+(y+_);omega
 |trans _ _ j p=>exact j.trans p
theorem yx(F:K2->Int):∀L:List (List K2),fR (L.map fun l=>fR (l.map F))=fR (L.flatten.map F)
 |[]=>rfl
 |l::L=>by
  rw[List.map_cons,List.flatten_cons,List.map_append,nR,<-yx F L];rfl
theorem AH{γ:Type}(lt:γ->γ->Bool)(x:γ):∀l:List γ,(lL lt x l).Perm (x::l)
 |[]=>List.Perm.refl _
 |y::l=>by
  unfold lL;split
  ·exact((AH lt x l).cons y).trans (List.Perm.swap x y l)
  ·exact List.Perm.refl _
theorem yK{γ:Type}(lt:γ->γ->Bool):∀l:List γ,(iX lt l).Perm l
 |[]=>List.Perm.refl _
 |x::l=>(AH lt x _).trans ((yK lt l).cons x)
theorem DX(h:Cy S)(F:K2×K2->Int):fR ((uT S).map fun x=>fR (x.2.map fun e=>F (e,nxt S e)))=fR (S.map F)/\∀x∈uT S,x.1=true/\Cyc S x.2/\x.2.length<=60:=by
 have C:dnK S=fun _=>false:=by funext x;unfold dnK;rw[h.Dl];rfl
 have D:wx S (opK S)=(CLs S (stK S) fun _=>false).map fun l=>(true,l):=by unfold wx;rw[h.Dl,C];rfl
 obtain⟨a,-,c,d⟩:=xn h.pw h.len (stK S) (fun _=>false) (fun x _=>Iff.rfl) (fun x j _=>⟨h.fwd j,rfl⟩) fun e he=>zp.1 he
 have hp:(uT S).Perm ((CLs S (stK S) fun _=>false).map fun l=>(true,l)):=by unfold uT;rw[D];exact yK _ _
 have m:(CLs S (stK S) fun _=>false).flatten.Perm (S.map (·.1)):=by
  have nd:(S.map (·.1)).Nodup:=by unfold List.Nodup;rw[List.pairwise_map];exact h.pw.imp fun h=>h.1
  refine(List.perm_ext_iff_of_nodup a nd).2 fun x=>⟨fun j=>?_,fun j=>?_⟩
  ·obtain⟨l,p,j⟩:=List.mem_flatten.1 j;obtain⟨q,z,e⟩:=iZ.1 ((d l p).st x j);exact List.mem_map.2 ⟨q,z,e⟩
  ·have:x∈stK S:=by unfold stK;rw[jN];exact j
   rcases c x this with h|h
   ·cases h
   ·exact h
 constructor
 ·rw[yV (hp.map _),List.map_map];show fR ((CLs S (stK S) fun _=>false).map fun l=>fR (l.map fun e=>F (e,nxt S e)))=_;rw[yx (fun e=>F (e,nxt S e)),yV (m.map _),List.map_map];congr 1;refine List.map_congr_left fun q z=>?_
  show F (q.1,nxt S q.1)=F q;rw[show nxt S q.1=q.2 from qs (h.pw.imp fun h=>h.1) z]
 ·intro x j;obtain⟨l,p,rfl⟩:=List.mem_map.1 (hp.mem_iff.1 j);refine⟨rfl,d l p,?_⟩;have h1:l.Sublist (CLs S (stK S) fun _=>false).flatten:=List.sublist_flatten_of_mem p;have h2:=h1.length_le;rw[m.length_eq,List.length_map]at h2;have:=h.len;show l.length<=60;omega
end
end Go.L


set_option linter.all false
namespace Go.L
open Go Go.Eng
def ctr(ax ay bx by':Rat):Int:=if ay<=0/\0<by'/\0<crQ ax ay bx by' then 1 else if 0<ay/\by'<=0/\crQ ax ay bx by'<0 then-1 else 0
theorem HD{ax ay bx by':Rat}{m:Int}(hm:-1000<=m/\m<=1000):stQ ax ay bx by' m=m+ctr ax ay bx by':=by
 unfold stQ ctr;split
 ·exact wrap64_in (by omega) (by omega)
 ·split
  ·rw[wrap64_in (by omega) (by omega)];omega
  ·omega
theorem Gh{ax ay bx by':Rat}:-1<=ctr ax ay bx by'/\ctr ax ay bx by'<=1:=by
 unfold ctr;split
 ·omega
 ·split<;>omega
theorem mr{a b:Rat}(h:0<a)(k:0<b):0<a*b:=Rat.mul_pos h k
theorem ub{a b:Rat}(h:a<0)(k:b<0):0<a*b:=by
 have:=Rat.mul_pos (a:=-a) (b:=-b) (by grind) (by grind);grind
theorem HC(a:Rat):a<0\/a=0\/0<a:=by
 by_cases h:a<0
 ·exact .inl h
 ·by_cases k:0<a
  ·exact .inr (.inr k)
  ·exact .inr (.inl (by grind))
theorem yW{a b:Rat}(h:a≠0)(k:b≠0):a*b≠0:=by
 rcases HC a with h1|h1|h1
 ·rcases HC b with j|j|j
  ·have:=ub h1 j;grind
  ·exact absurd j k
  ·have:=Rat.mul_pos (a:=-a) (b:=b) (by grind) j;grind
 ·exact absurd h1 h
 ·rcases HC b with j|j|j
  ·have:=Rat.mul_pos (a:=a) (b:=-b) h1 (by grind);grind
  ·exact absurd j k
  ·have:=mr h1 j;grind
def Bt(v:Int)(y:Rat):Prop:=(v:Rat)<y/\y<((v+1:Int):Rat)
theorem icl{a b:Int}(h:a<=b):(a:Rat)<=(b:Rat):=Rat.intCast_le_intCast.2 h
theorem ics(v:Int):((v+1:Int):Rat)=(v:Rat)+1:=by rw[Rat.intCast_add];rfl
theorem Bt.pos{v:Int}{y:Rat}(h:Bt v y)(k:0<=v):0<y:=by
 have:=icl k;have:=h.1;rw[Rat.intCast_zero]at*;grind
theorem Bt.neg{v:Int}{y:Rat}(h:Bt v y)(k:v<=-1):y<0:=by
 have h1:=icl (show v+1<=0 by omega);have:=h.2;rw[Rat.intCast_zero]at h1;grind
theorem Bt.ne{v:Int}{y:Rat}(h:Bt v y):y≠0:=by
 by_cases k:0<=v
 ·have:=h.pos k;grind
 ·have:=h.neg (by omega);grind
theorem oI{v:Int}(h:1<=v):0<(v:Rat):=by
 have:=icl h;rw[Rat.intCast_one]at this;grind
theorem qX{v:Int}(h:v<=-1):(v:Rat)<0:=by
 have:=icl h;rw[Rat.intCast_neg,Rat.intCast_one]at this;grind
theorem IA{ax ay bx by':Rat}:onQ ax ay bx by'=true↔crQ ax ay bx by'=0/\ax*bx<=0/\ay*by'<=0:=by
 unfold onQ;rw[decide_eq_true_iff];constructor
 ·rintro⟨a,b⟩;exact⟨a,(CB (by unfold crQ at a;exact a)).1 b⟩
 ·rintro⟨a,b⟩;exact⟨a,(CB (by unfold crQ at a;exact a)).2 b⟩
theorem lI{ax ay bx by':Rat}(h:crQ ax ay bx by'=0->ay*by'<=0->False):onQ ax ay bx by'=false:=by
 cases e:onQ ax ay bx by' with
 |false=>rfl
 |true=>obtain⟨a,_,b⟩:=IA.1 e;exact(h a b).elim
theorem CZ{v:Int}{ax ay bx by':Rat}(h1:Bt v ay)(h2:Bt v by'):onQ ax ay bx by'=false/\ctr ax ay bx by'=0:=by
 by_cases k:0<=v
 ·have a:=h1.pos k;have b:=h2.pos k;refine⟨lI fun _ j=>?_,?_⟩
  ·have:=mr a b;grind
  ·unfold ctr;rw[if_neg fun q=>by grind,if_neg fun q=>by grind]
 ·have a:=h1.neg (by omega);have b:=h2.neg (by omega);refine⟨lI fun _ j=>?_,?_⟩
  ·have:=ub a b;grind
  ·unfold ctr;rw[if_neg fun q=>by grind,if_neg fun q=>by grind]
theorem HI{u v:Int}{ax ay bx by':Rat}(m:ay=(v:Rat))(hu:Bt u ax)(h2:Bt v by'):onQ ax ay bx by'=false/\ctr ax ay bx by'=if v=0/\0<=u then 1 else 0:=by
 by_cases k:v=0
 ·subst k;have a:ay=0:=by rw[m,Rat.intCast_zero]
  have b:=h2.pos (by omega);have c:crQ ax ay bx by'=ax*by':=by unfold crQ;rw[a];grind
  refine⟨lI fun j _=>?_,?_⟩
  ·rw[c]at j;exact yW hu.ne h2.ne j
  ·unfold ctr;rw[c];by_cases p:0<=u
   ·rw[if_pos ⟨by grind,b,mr (hu.pos p) b⟩,if_pos ⟨rfl,p⟩]
   ·have:=Rat.mul_pos (a:=-ax) (b:=by') (by have:=hu.neg (by omega);grind) b;rw[if_neg fun q=>by grind,if_neg fun q=>by grind,if_neg fun q=>p q.2]
 ·rw[if_neg fun q=>k q.1];by_cases z:1<=v
  ·have a:=oI z;have b:=h2.pos (by omega);refine⟨lI fun _ j=>?_,?_⟩
   ·have:=mr a b;rw[m]at j;grind
   ·unfold ctr;rw[m,if_neg fun q=>by grind,if_neg fun q=>by grind]
  ·have a:=qX (v:=v) (by omega);have b:=h2.neg (by omega);refine⟨lI fun _ j=>?_,?_⟩
   ·have:=ub a b;rw[m]at j;grind
   ·unfold ctr;rw[m,if_neg fun q=>by grind,if_neg fun q=>by grind]
theorem GW{u v:Int}{ax ay bx by':Rat}(j:by'=(v:Rat))(hu:Bt u bx)(h2:Bt v ay):onQ ax ay bx by'=false/\ctr ax ay bx by'=if v=0/\0<=u then-1 else 0:=by
 by_cases k:v=0
 ·subst k;have a:by'=0:=by rw[j,Rat.intCast_zero]
  have b:=h2.pos (by omega);have c:crQ ax ay bx by'=-(bx*ay):=by unfold crQ;rw[a];grind
  have n:=yW hu.ne h2.ne;refine⟨lI fun m _=>?_,?_⟩
  ·rw[c]at m;grind
  ·unfold ctr;rw[c];by_cases p:0<=u
   ·have:=mr (hu.pos p) b;rw[if_neg fun q=>by grind,if_pos ⟨b,by grind,by grind⟩,if_pos ⟨rfl,p⟩]
   ·have:=Rat.mul_pos (a:=-bx) (b:=ay) (by have:=hu.neg (by omega);grind) b;rw[if_neg fun q=>by grind,if_neg fun q=>by grind,if_neg fun q=>p q.2]
 ·rw[if_neg fun q=>k q.1];by_cases z:1<=v
  ·have a:=oI z;have b:=h2.pos (by omega);refine⟨lI fun _ m=>?_,?_⟩
   ·have:=mr b a;rw[j]at m;grind
   ·unfold ctr;rw[j,if_neg fun q=>by grind,if_neg fun q=>by grind]
  ·have a:=qX (v:=v) (by omega);have b:=h2.neg (by omega);refine⟨lI fun _ m=>?_,?_⟩
   ·have:=ub b a;rw[j]at m;grind
   ·unfold ctr;rw[j,if_neg fun q=>by grind,if_neg fun q=>by grind]
theorem G6{u v:Int}{ax ay bx by':Rat}(j:ay=((v+1:Int):Rat))(hu:Bt u ax)(h2:Bt v by'):onQ ax ay bx by'=false/\ctr ax ay bx by'=0:=by
 by_cases k:0<=v
 ·have a:=oI (v:=v+1) (by omega);have b:=h2.pos k;refine⟨lI fun _ m=>?_,?_⟩
  ·have:=mr a b;rw[j]at m;grind
  ·unfold ctr;rw[j,if_neg fun q=>by grind,if_neg fun q=>by grind]
 ·have b:=h2.neg (by omega);have a:ay<=0:=by have:=icl (show v+1<=0 by omega);rw[Rat.intCast_zero]at this;rw[j];exact this
  refine⟨lI fun hc m=>?_,?_⟩
  ·by_cases p:v=-1
   ·subst p;have a0:ay=0:=by rw[j];exact Rat.intCast_zero
    unfold crQ at hc;rw[a0]at hc;exact yW hu.ne h2.ne (by grind)
   ·have a:=qX (v:=v+1) (by omega);have:=ub a b;rw[j]at m;grind
  ·unfold ctr;rw[if_neg fun q=>by grind,if_neg fun q=>by grind]
theorem HB{u v:Int}{ax ay bx by':Rat}(j:by'=((v+1:Int):Rat))(hu:Bt u bx)(h2:Bt v ay):onQ ax ay bx by'=false/\ctr ax ay bx by'=0:=by
 by_cases k:0<=v
 ·have a:=oI (v:=v+1) (by omega);have b:=h2.pos k;refine⟨lI fun _ m=>?_,?_⟩
  ·have:=mr b a;rw[j]at m;grind
  ·unfold ctr;rw[j,if_neg fun q=>by grind,if_neg fun q=>by grind]
 ·have b:=h2.neg (by omega);have a:by'<=0:=by have:=icl (show v+1<=0 by omega);rw[Rat.intCast_zero]at this;rw[j];exact this
  refine⟨lI fun hc m=>?_,?_⟩
  ·by_cases p:v=-1
   ·subst p;have a0:by'=0:=by rw[j];exact Rat.intCast_zero
    unfold crQ at hc;rw[a0]at hc;exact yW hu.ne h2.ne (by grind)
   ·have a:=qX (v:=v+1) (by omega);have:=ub b a;rw[j]at m;grind
  ·unfold ctr;rw[if_neg fun q=>by grind,if_neg fun q=>by grind]
theorem H9{s ax ay bx by':Rat}:crQ (s*ax) (s*ay) (s*bx) (s*by')=s*s*crQ ax ay bx by':=by unfold crQ;grind
theorem xk{s r:Rat}(hs:0<s):0<s*r↔0<r:=by
 constructor
 ·intro h;apply Classical.byContradiction;intro k;have:0<=s*(-r):=Rat.mul_nonneg (by grind) (by grind);grind
 ·exact mr hs
theorem EO{s r:Rat}(hs:0<s):s*r<0↔r<0:=by
 have:=xk (s:=s) (r:=-r) hs;grind
theorem Ip{s r:Rat}(hs:0<s):s*r<=0↔r<=0:=by
 have:=xk (s:=s) (r:=r) hs;grind
theorem GK{s r:Rat}(hs:0<s):s*r=0↔r=0:=by
 have h1:=xk (s:=s) (r:=r) hs;have h2:=EO (s:=s) (r:=r) hs;constructor
 ·intro h;rcases HC r with h|h|h<;>grind
 ·intro h;rw[h,Rat.mul_zero]
theorem Iv{s ax ay bx by':Rat}(hs:0<s):ctr (s*ax) (s*ay) (s*bx) (s*by')=ctr ax ay bx by':=by
 have h2:=mr hs hs;unfold ctr;rw[H9];simp only[Ip hs,xk hs,xk h2,EO h2]
theorem JV{s ax ay bx by':Rat}(hs:0<s):onQ (s*ax) (s*ay) (s*bx) (s*by')=onQ ax ay bx by':=by
 have h2:=mr hs hs;have j:s*ax*(s*bx)+s*ay*(s*by')=s*s*(ax*bx+ay*by'):=by grind
 unfold onQ;rw[H9,j];simp only[GK h2,Ip h2]
end Go.L

