import Derived.Test.YtfhhaadcodofnaaGreatSc13Chks
import Derived.Test.YtfhhaadcodofnaaGreatScSChks
import Derived.Test.YtfhhaadcodofnaaGreatSc13Chks
set_option linter.all false
set_option linter.unusedVariables false
namespace Go.L
open Go Go.Eng
section
variable{γ:Type}
theorem wA(lt:γ->γ->Bool)(x:γ):∀l:List γ,(mG lt x l).Perm (x::l)
 |[]=>List.Perm.refl _
 |y::l=>by
  unfold mG;split
  ·exact((wA lt x l).cons y).trans (List.Perm.swap x y l)
  ·exact List.Perm.refl _
theorem tY(lt:γ->γ->Bool):∀l:List γ,(fJ lt l).Perm l
 |[]=>List.Perm.refl _
 |x::l=>(wA lt x _).trans ((tY lt l).cons x)
structure IH (lt:γ->γ->Bool) (l:List γ):Prop where
 tr:∀x∈l,∀y∈l,∀z∈l,lt x y=true->lt y z=true->lt x z=true
 ntr:∀x∈l,∀y∈l,∀z∈l,lt x y=false->lt y z=false->lt x z=false
 irr:∀x∈l,lt x x=false
theorem DO{lt:γ->γ->Bool}{L:List γ}(h:IH lt L)(x:γ)(hx:x∈L):∀l:List γ,(∀y∈l,y∈L)->l.Pairwise (fun a b=>lt b a=false)->(mG lt x l).Pairwise (fun a b=>lt b a=false)
 |[],_,_=>List.pairwise_singleton _ _
 |y::l,C,hp=>by
  obtain⟨h1,h2⟩:=List.pairwise_cons.1 hp;have q:=C y (by simp);unfold mG;split
  ·rename_i j;refine List.pairwise_cons.2 ⟨fun z m=>?_,DO h x hx l (fun z m=>C z (by simp[m])) h2⟩;rcases List.mem_cons.1 ((wA lt x l).mem_iff.1 m)with rfl|m
   ·cases hc:lt z y with
    |false=>rfl
    |true=>have:=h.tr _ q _ hx _ q j hc;rw[h.irr _ q]at this;cases this
   ·exact h1 z m
  ·rename_i j;have j:lt y x=false:=by simpa using j
   refine List.pairwise_cons.2 ⟨fun z m=>?_,hp⟩;rcases List.mem_cons.1 m with rfl|m
   ·exact j
   ·exact h.ntr _ (C z (by simp[m])) _ q _ hx (h1 z m) j
theorem Bw{lt:γ->γ->Bool}{L:List γ}(h:IH lt L):∀l:List γ,(∀y∈l,y∈L)->(fJ lt l).Pairwise (fun a b=>lt b a=false)
 |[],_=>List.Pairwise.nil
 |x::l,j=>DO h x (j x (by simp)) _ (fun y m=>j y (by simp[(tY lt l).mem_iff.1 m])) (Bw h l fun y m=>j y (by simp[m]))
theorem FO[DecidableEq γ]{cmp:γ->γ->Option Int}{l J:List γ}(h:sq cmp l=some J):FA (cfO cmp) l J/\∀x∈l,∀y∈l,cmp x y=some (cfO cmp x y):=by
 unfold sq at h;split at h
 ·rename_i m;cases h;unfold Aq at m;rw[List.all_eq_true]at m;have irr:∀x∈l,¬cfO cmp x x<0:=fun x hx=>by
   have:=m x hx;rw[Bool.and_eq_true]at this;exact dcT this.1
  have q:∀x∈l,∀y∈l,(cmp x y).isSome=true/\(cfO cmp x y<0\/cfO cmp y x<0\/x=y)/\∀z∈l,(cfO cmp x y<0->cfO cmp y z<0->cfO cmp x z<0)/\(¬cfO cmp x y<0->¬cfO cmp y z<0->¬cfO cmp x z<0):=fun x hx y j=>by
   have h1:=m x hx;rw[Bool.and_eq_true,List.all_eq_true]at h1;have h2:=h1.2 y j;rw[Bool.and_eq_true,Bool.and_eq_true,List.all_eq_true]at h2;refine⟨h2.1,dcT h2.2.1,fun z C=>?_⟩;have E:=h2.2.2 z C;rw[Bool.and_eq_true]at E;exact⟨dcT E.1,dcT E.2⟩
  have tr:=fun x hx y j z C=>((q x hx y j).2.2 z C).1
  have ntr:=fun x hx y j z C=>((q x hx y j).2.2 z C).2
  have N:IH (fun x y=>decide (cfO cmp x y<0)) l:=⟨fun x hx y j z C h1 h2=>decide_eq_true (tr x hx y j z C (dcT h1) (dcT h2)),fun x hx y j z C h1 h2=>decide_eq_false (ntr x hx y j z C (dcF h1) (dcF h2)),fun x hx=>decide_eq_false (irr x hx)⟩;refine⟨⟨irr,tr,ntr,fun O hp hw=>?_⟩,fun x hx y j=>?_⟩
  ·have D:=tY (fun x y=>decide (cfO cmp x y<0)) l;have I:=Bw N l (fun _ h=>h);refine List.Perm.eq_of_pairwise (le:=fun a b=>¬cfO cmp b a<0) (fun a b ha hb h1 h2=>?_) hw (I.imp fun h=>dcF h) (hp.trans D.symm);rcases (q a (hp.mem_iff.1 ha) b (D.mem_iff.1 hb)).2.1 with h|h|h
   ·exact absurd h h2
   ·exact absurd h h1
   ·exact h
  ·have:=(q x hx y j).1;unfold cfO;cases hc:cmp x y with
   |none=>rw[hc]at this;cases this
   |some r=>rfl
 ·cases h
end
end Go.L


set_option linter.unusedVariables false
namespace Go.Eng
open Go Go.RowKit Go.Proofs
variable[Dr]
variable{K:Nat}{P:Program}
theorem bO.HE{k:Nat}{Hc:List Blk}{caps:List AV}{f g:FuncId}(hs:∀(p:Option Addr) (cap:Nat) (C:Value) (w:World),Calls P f #[.slice p 0 cap,C] w fun e w'=>e=.returned (.tuple #[])/\w'=w):
  bO K P f [.hs 0 0 0 k,.fn g [] caps] (.own []::Hc) (jv []) (.own []::Hc):=by
 intro out B w π vs D ha;obtain⟨v,E,rfl,I,v2,m,rfl,J,j⟩:=ha;have j:m=[]:=j;subst j;have fin:∀e w',(e=Ending.returned (.tuple #[])/\w'=w)->∃u π',e=.returned u/\EK K B w w' (aL out π (.own []::Hc)) (aL out π' (.own []::Hc)) π π'/\Inv out B w' π' (.own []::Hc)/\Rv w' (aL out π' (.own []::Hc)) π' (jv []) u:=by
  rintro e w' ⟨rfl,rfl⟩;exact⟨_,π,rfl,EK.id,D,⟨#[],rfl,rfl⟩⟩
 rcases I with⟨_,rfl⟩|⟨p,a,cap,hp,rfl,z,q,ha⟩
 ·exact(hs none 0 v2 w).mono fin
 ·exact(hs (some a) cap v2 w).mono fin
end Go.Eng


set_option linter.unusedVariables false
namespace Go.Eng
open Go Go.RowKit Go.Proofs
variable[Dr]
variable{K:Nat}{P:Program}
theorem bO.E0{γ:Type}[DecidableEq γ]{c:γ->List AV}{k:Nat}{cmp:γ->γ->Option Int}{j m:List γ}{Hc:List Blk}{caps caps':List AV}{f g:FuncId}
  (hs:oz P f g k) (q:∀(p:Option Addr) (cap:Nat) (C:Value) (w:World),Calls P f #[.slice p 0 cap,C] w fun e w'=>e=.returned (.tuple #[])/\w'=w)
  (hk:∀x,(c x).length=k) (hpure:∀x,cJ (c x)=[])
  (h:Go.L.sq cmp j=some m) (hlen:j.length<4611686018427387904)
  (hcaps:SnL (.own (j.flatMap c)::Hc) (fun b=>b !=0) caps caps')
  (hcmp:∀x y r,cmp x y=some r->@aQ ⟨true⟩ P g ([.agg (c x),.agg (c y)]++caps') (.at (.int .i64 r))):
  bO K P f [.hs 0 0 j.length k,.fn g [] caps] (.own (j.flatMap c)::Hc) (jv []) (.own (m.flatMap c)::Hc):=by
 obtain⟨D,E⟩:=Go.L.FO h;cases j with
 |nil=>
  have:m=[]:=by
   have:=h;unfold Go.L.sq at this;split at this
   ·cases this;rfl
   ·cases this
  subst this;exact bO.HE q
 |cons z j=>exact bO.Jk hs hk hpure (by simp) hlen hcaps (fun x hx y I=>hcmp x y _ (E x hx y I)) D
end Go.Eng


set_option linter.unusedVariables false
namespace Go.Eng
open Go Go.RowKit Go.Proofs
variable[Dr]
variable{K:Nat}{P:Program}
end Go.Eng

