import Derived.Test.YtlhnaccgnegjdaaGreatSc13Ness
import Derived.Test.YtlhnaccgnegjdaaGreatScSNess
import Derived.Test.YtlhnaccgnegjdaaGreatSc13Ness
set_option linter.all false
set_option linter.unusedVariables false
namespace Go.L
open Go Go.Eng
section
variable{γ:Type}
theorem vJ(lt:γ->γ->Bool)(x:γ):∀l:List γ,(mU lt x l).Perm (x::l)
 |[]=>List.Perm.refl _
 |y::l=>by
  unfold mU;split
  ·exact((vJ lt x l).cons y).trans (List.Perm.swap x y l)
  ·exact List.Perm.refl _
theorem tV(lt:γ->γ->Bool):∀l:List γ,(hU lt l).Perm l
 |[]=>List.Perm.refl _
 |x::l=>(vJ lt x _).trans ((tV lt l).cons x)
structure Hr (lt:γ->γ->Bool) (l:List γ):Prop where
 tr:∀x∈l,∀y∈l,∀z∈l,lt x y=true->lt y z=true->lt x z=true
 ntr:∀x∈l,∀y∈l,∀z∈l,lt x y=false->lt y z=false->lt x z=false
 irr:∀x∈l,lt x x=false
theorem CJ{lt:γ->γ->Bool}{L:List γ}(h:Hr lt L)(x:γ)(hx:x∈L):∀l:List γ,(∀y∈l,y∈L)->l.Pairwise (fun a b=>lt b a=false)->(mU lt x l).Pairwise (fun a b=>lt b a=false)
 |[],_,_=>List.pairwise_singleton _ _
 |y::l,q,hp=>by
  obtain⟨h1,h2⟩:=List.pairwise_cons.1 hp;have p:=q y (by simp);unfold mU;split
  ·rename_i j;refine List.pairwise_cons.2 ⟨fun z m=>?_,CJ h x hx l (fun z m=>q z (by simp[m])) h2⟩;rcases List.mem_cons.1 ((vJ lt x l).mem_iff.1 m)with rfl|m
   ·cases hc:lt z y with
    |false=>rfl
    |true=>have:=h.tr _ p _ hx _ p j hc;rw[h.irr _ p]at this;cases this
   ·exact h1 z m
  ·rename_i j;have j:lt y x=false:=by simpa using j
   refine List.pairwise_cons.2 ⟨fun z m=>?_,hp⟩;rcases List.mem_cons.1 m with rfl|m
   ·exact j
   ·exact h.ntr _ (q z (by simp[m])) _ p _ hx (h1 z m) j
theorem AQ{lt:γ->γ->Bool}{L:List γ}(h:Hr lt L):∀l:List γ,(∀y∈l,y∈L)->(hU lt l).Pairwise (fun a b=>lt b a=false)
 |[],_=>List.Pairwise.nil
 |x::l,j=>CJ h x (j x (by simp)) _ (fun y m=>j y (by simp[(tV lt l).mem_iff.1 m])) (AQ h l fun y m=>j y (by simp[m]))
theorem EA[DecidableEq γ]{cmp:γ->γ->Option Int}{l I:List γ}(h:wA cmp l=some I):FE (cfO cmp) l I/\∀x∈l,∀y∈l,cmp x y=some (cfO cmp x y):=by
 unfold wA at h;split at h
 ·rename_i m;cases h;unfold Ar at m;rw[List.all_eq_true]at m;have irr:∀x∈l,¬cfO cmp x x<0:=fun x hx=>by
   have:=m x hx;rw[Bool.and_eq_true]at this;exact dcT this.1
  have p:∀x∈l,∀y∈l,(cmp x y).isSome=true/\(cfO cmp x y<0\/cfO cmp y x<0\/x=y)/\∀z∈l,(cfO cmp x y<0->cfO cmp y z<0->cfO cmp x z<0)/\(¬cfO cmp x y<0->¬cfO cmp y z<0->¬cfO cmp x z<0):=fun x hx y j=>by
   have h1:=m x hx;rw[Bool.and_eq_true,List.all_eq_true]at h1;have h2:=h1.2 y j;rw[Bool.and_eq_true,Bool.and_eq_true,List.all_eq_true]at h2;refine⟨h2.1,dcT h2.2.1,fun z q=>?_⟩;have D:=h2.2.2 z q;rw[Bool.and_eq_true]at D;exact⟨dcT D.1,dcT D.2⟩
  have tr:=fun x hx y j z q=>((p x hx y j).2.2 z q).1
  have ntr:=fun x hx y j z q=>((p x hx y j).2.2 z q).2
  have J:Hr (fun x y=>decide (cfO cmp x y<0)) l:=⟨fun x hx y j z q h1 h2=>decide_eq_true (tr x hx y j z q (dcT h1) (dcT h2)),fun x hx y j z q h1 h2=>decide_eq_false (ntr x hx y j z q (dcF h1) (dcF h2)),fun x hx=>decide_eq_false (irr x hx)⟩;refine⟨⟨irr,tr,ntr,fun M hp hw=>?_⟩,fun x hx y j=>?_⟩
  ·have C:=tV (fun x y=>decide (cfO cmp x y<0)) l;have E:=AQ J l (fun _ h=>h);refine List.Perm.eq_of_pairwise (le:=fun a b=>¬cfO cmp b a<0) (fun a b ha hb h1 h2=>?_) hw (E.imp fun h=>dcF h) (hp.trans C.symm);rcases (p a (hp.mem_iff.1 ha) b (C.mem_iff.1 hb)).2.1 with h|h|h
   ·exact absurd h h2
   ·exact absurd h h1
   ·exact h
  ·have:=(p x hx y j).1;unfold cfO;cases hc:cmp x y with
   |none=>rw[hc]at this;cases this
   |some r=>rfl
 ·cases h
end
end Go.L


set_option linter.unusedVariables false
namespace Go.Eng
open Go Go.RowKit Go.Proofs
variable[Dr]
variable{K:Nat}{P:Program}
theorem fh.GH{k:Nat}{m:List Blk}{caps:List AV}{f g:FuncId}(hs:∀(p:Option Addr) (cap:Nat) (D:Value) (w:World),Calls P f #[.slice p 0 cap,D] w fun e w'=>e=.returned (.tuple #[])/\w'=w):
  fh K P f [.hs 0 0 0 k,.fn g [] caps] (.own []::m) (jg []) (.own []::m):=by
 intro out B w π vs E ha;obtain⟨v,I,rfl,J,v2,q,rfl,M,j⟩:=ha;have j:q=[]:=j;subst j;have fin:∀e w',(e=Ending.returned (.tuple #[])/\w'=w)->∃u π',e=.returned u/\EK K B w w' (aG out π (.own []::m)) (aG out π' (.own []::m)) π π'/\Inv out B w' π' (.own []::m)/\Rv w' (aG out π' (.own []::m)) π' (jg []) u:=by
  rintro e w' ⟨rfl,rfl⟩;exact⟨_,π,rfl,EK.id,E,⟨#[],rfl,rfl⟩⟩
 rcases J with⟨_,rfl⟩|⟨p,a,cap,hp,rfl,C,z,ha⟩
 ·exact(hs none 0 v2 w).mono fin
 ·exact(hs (some a) cap v2 w).mono fin
end Go.Eng


set_option linter.unusedVariables false
namespace Go.Eng
open Go Go.RowKit Go.Proofs
variable[Dr]
variable{K:Nat}{P:Program}
theorem fh.GZ{γ:Type}[DecidableEq γ]{c:γ->List AV}{k:Nat}{cmp:γ->γ->Option Int}{j m:List γ}{E:List Blk}{caps caps':List AV}{f g:FuncId}
  (hs:ov P f g k) (I:∀(p:Option Addr) (cap:Nat) (J:Value) (w:World),Calls P f #[.slice p 0 cap,J] w fun e w'=>e=.returned (.tuple #[])/\w'=w)
  (M:∀x,(c x).length=k) (q:∀x,cj (c x)=[])
  (h:Go.L.wA cmp j=some m) (hlen:j.length<4611686018427387904)
  (C:SnL (.own (j.flatMap c)::E) (fun b=>b !=0) caps caps')
  (D:∀x y r,cmp x y=some r->@aO ⟨true⟩ P g ([.agg (c x),.agg (c y)]++caps') (.at (.int .i64 r))):
  fh K P f [.hs 0 0 j.length k,.fn g [] caps] (.own (j.flatMap c)::E) (jg []) (.own (m.flatMap c)::E):=by
 obtain⟨N,O⟩:=Go.L.EA h;cases j with
 |nil=>
  have:m=[]:=by
   have:=h;unfold Go.L.wA at this;split at this
   ·cases this;rfl
   ·cases this
  subst this;exact fh.GH I
 |cons z j=>exact fh.ID hs M q (by simp) hlen C (fun x hx y T=>D x y _ (O x hx y T)) N
end Go.Eng


set_option linter.unusedVariables false
namespace Go.Eng
open Go Go.RowKit Go.Proofs
variable[Dr]
variable{K:Nat}{P:Program}
end Go.Eng

