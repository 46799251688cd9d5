import Derived.Test.YtglimpjlhfjgdaaGreatSc13Slds
import Derived.Test.YtglimpjlhfjgdaaGreatScSSlds
import Derived.Test.YtglimpjlhfjgdaaGreatSc13Slds
set_option linter.all false
set_option linter.unusedVariables false
namespace Go.L
open Go Go.Eng
section
variable{γ:Type}
theorem uV(lt:γ->γ->Bool)(x:γ):∀l:List γ,(lL lt x l).Perm (x::l)
 |[]=>List.Perm.refl _
 |y::l=>by
  unfold lL;split
  ·exact((uV lt x l).cons y).trans (List.Perm.swap x y l)
  ·exact List.Perm.refl _
theorem sD(lt:γ->γ->Bool):∀l:List γ,(iX lt l).Perm l
 |[]=>List.Perm.refl _
 |x::l=>(uV lt x _).trans ((sD lt l).cons x)
structure IQ (lt:γ->γ->Bool) (l:List γ):Prop where
 tr:∀x∈l,∀y∈l,∀z∈l,lt x y=true->lt y z=true->lt x z=true
 ntr:∀x∈l,∀y∈l,∀z∈l,lt x y=false->lt y z=false->lt x z=false
 irr:∀x∈l,lt x x=false
theorem DE{lt:γ->γ->Bool}{L:List γ}(h:IQ lt L)(x:γ)(q:x∈L):∀l:List γ,(∀y∈l,y∈L)->l.Pairwise (fun a b=>lt b a=false)->(lL lt x l).Pairwise (fun a b=>lt b a=false)
 |[],_,_=>List.pairwise_singleton _ _
 |y::l,C,hp=>by
  obtain⟨h1,h2⟩:=List.pairwise_cons.1 hp;have p:=C y (by simp);unfold lL;split
  ·rename_i j;refine List.pairwise_cons.2 ⟨fun z m=>?_,DE h x q l (fun z m=>C z (by simp[m])) h2⟩;rcases List.mem_cons.1 ((uV lt x l).mem_iff.1 m)with rfl|m
   ·cases hc:lt z y with
    |false=>rfl
    |true=>have:=h.tr _ p _ q _ p j hc;rw[h.irr _ p]at this;cases this
   ·exact h1 z m
  ·rename_i j;have j:lt y x=false:=by simpa using j
   refine List.pairwise_cons.2 ⟨fun z m=>?_,hp⟩;rcases List.mem_cons.1 m with rfl|m
   ·exact j
   ·exact h.ntr _ (C z (by simp[m])) _ p _ q (h1 z m) j
theorem An{lt:γ->γ->Bool}{L:List γ}(h:IQ lt L):∀l:List γ,(∀y∈l,y∈L)->(iX lt l).Pairwise (fun a b=>lt b a=false)
 |[],_=>List.Pairwise.nil
 |x::l,j=>DE h x (j x (by simp)) _ (fun y m=>j y (by simp[(sD lt l).mem_iff.1 m])) (An h l fun y m=>j y (by simp[m]))
theorem Fx[DecidableEq γ]{cmp:γ->γ->Option Int}{l J:List γ}(h:vt cmp l=some J):Ev (cfO cmp) l J/\∀x∈l,∀y∈l,cmp x y=some (cfO cmp x y):=by
 unfold vt at h;split at h
 ·rename_i p;cases h;unfold zO at p;rw[List.all_eq_true]at p;have irr:∀x∈l,¬cfO cmp x x<0:=fun x j=>by
   have:=p x j;rw[Bool.and_eq_true]at this;exact dcT this.1
  have q:∀x∈l,∀y∈l,(cmp x y).isSome=true/\(cfO cmp x y<0\/cfO cmp y x<0\/x=y)/\∀z∈l,(cfO cmp x y<0->cfO cmp y z<0->cfO cmp x z<0)/\(¬cfO cmp x y<0->¬cfO cmp y z<0->¬cfO cmp x z<0):=fun x j y m=>by
   have h1:=p x j;rw[Bool.and_eq_true,List.all_eq_true]at h1;have h2:=h1.2 y m;rw[Bool.and_eq_true,Bool.and_eq_true,List.all_eq_true]at h2;refine⟨h2.1,dcT h2.2.1,fun z C=>?_⟩;have E:=h2.2.2 z C;rw[Bool.and_eq_true]at E;exact⟨dcT E.1,dcT E.2⟩
  have tr:=fun x j y m z C=>((q x j y m).2.2 z C).1
  have ntr:=fun x j y m z C=>((q x j y m).2.2 z C).2
  have M:IQ (fun x y=>decide (cfO cmp x y<0)) l:=⟨fun x j y m z C h1 h2=>decide_eq_true (tr x j y m z C (dcT h1) (dcT h2)),fun x j y m z C h1 h2=>decide_eq_false (ntr x j y m z C (dcF h1) (dcF h2)),fun x j=>decide_eq_false (irr x j)⟩;refine⟨⟨irr,tr,ntr,fun N hp hw=>?_⟩,fun x j y m=>?_⟩
  ·have D:=sD (fun x y=>decide (cfO cmp x y<0)) l;have I:=An M l (fun _ h=>h);refine List.Perm.eq_of_pairwise (le:=fun a b=>¬cfO cmp b a<0) (fun a b O T h1 h2=>?_) hw (I.imp fun h=>dcF h) (hp.trans D.symm);rcases (q a (hp.mem_iff.1 O) b (D.mem_iff.1 T)).2.1 with h|h|h
   ·exact absurd h h2
   ·exact absurd h h1
   ·exact h
  ·have:=(q x j y m).1;unfold cfO;cases hc:cmp x y with
   |none=>rw[hc]at this;cases this
   |some r=>rfl
 ·cases h
end
end Go.L


set_option linter.unusedVariables false
namespace Go.Eng
open Go Go.RowKit Go.Proofs
variable[Dr]
variable{K:Nat}{P:Program}
theorem dr.Hw{k:Nat}{m:List Blk}{caps:List AV}{f g:FuncId}(hs:∀(p:Option Addr) (cap:Nat) (E:Value) (w:World),Calls P f #[.slice p 0 cap,E] w fun e w'=>e=.returned (.tuple #[])/\w'=w):
  dr K P f [.hs 0 0 0 k,.fn g [] caps] (.own []::m) (gL []) (.own []::m):=by
 intro out B w π vs I C;obtain⟨v,J,rfl,M,v2,q,rfl,N,j⟩:=C;have j:q=[]:=j;subst j;have fin:∀e w',(e=Ending.returned (.tuple #[])/\w'=w)->∃u π',e=.returned u/\EK K B w w' (aI out π (.own []::m)) (aI out π' (.own []::m)) π π'/\Inv out B w' π' (.own []::m)/\Rv w' (aI out π' (.own []::m)) π' (gL []) u:=by
  rintro e w' ⟨rfl,rfl⟩;exact⟨_,π,rfl,EK.id,I,⟨#[],rfl,rfl⟩⟩
 rcases M with⟨_,rfl⟩|⟨p,a,cap,hp,rfl,D,z,C⟩
 ·exact(hs none 0 v2 w).mono fin
 ·exact(hs (some a) cap v2 w).mono fin
end Go.Eng


set_option linter.unusedVariables false
namespace Go.Eng
open Go Go.RowKit Go.Proofs
variable[Dr]
variable{K:Nat}{P:Program}
theorem dr.H6{γ:Type}[DecidableEq γ]{c:γ->List AV}{k:Nat}{cmp:γ->γ->Option Int}{j m:List γ}{E:List Blk}{caps caps':List AV}{f g:FuncId}
  (hs:lW P f g k) (I:∀(p:Option Addr) (cap:Nat) (J:Value) (w:World),Calls P f #[.slice p 0 cap,J] w fun e w'=>e=.returned (.tuple #[])/\w'=w)
  (hk:∀x,(c x).length=k) (q:∀x,bL (c x)=[])
  (h:Go.L.vt cmp j=some m) (hlen:j.length<4611686018427387904)
  (C:SnL (.own (j.flatMap c)::E) (fun b=>b !=0) caps caps')
  (D:∀x y r,cmp x y=some r->@aT ⟨true⟩ P g ([.agg (c x),.agg (c y)]++caps') (.at (.int .i64 r))):
  dr K P f [.hs 0 0 j.length k,.fn g [] caps] (.own (j.flatMap c)::E) (gL []) (.own (m.flatMap c)::E):=by
 obtain⟨M,N⟩:=Go.L.Fx h;cases j with
 |nil=>
  have:m=[]:=by
   have:=h;unfold Go.L.vt at this;split at this
   ·cases this;rfl
   ·cases this
  subst this;exact dr.Hw I
 |cons z j=>exact dr.J8 hs hk q (by simp) hlen C (fun x O y T=>D x y _ (N x O y T)) M
end Go.Eng


set_option linter.unusedVariables false
namespace Go.Eng
open Go Go.RowKit Go.Proofs
variable[Dr]
variable{K:Nat}{P:Program}
end Go.Eng

