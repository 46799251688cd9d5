import Derived.Test.YtlpfiiejhikalaaGreatSc13Trks
import Derived.Test.YtlpfiiejhikalaaGreatScSTrks
import Derived.Test.YtlpfiiejhikalaaGreatSc13Trks
set_option linter.all false
set_option linter.unusedVariables false
namespace Go.L
open Go Go.Eng
section
variable {γ : Type}
theorem o8 (lt : γ -> γ -> Bool) (x : γ) : ∀ l : List γ, (kV lt x l).Perm (x :: l)
 | [] => List.Perm.refl _
 | y :: l => by
  unfold kV
  split
  · exact ((o8 lt x l).cons y).trans (List.Perm.swap x y l)
  · exact List.Perm.refl _
theorem nF (lt : γ -> γ -> Bool) : ∀ l : List γ, (fG lt l).Perm l
 | [] => List.Perm.refl _
 | x :: l => (o8 lt x _).trans ((nF lt l).cons x)
structure BO (lt : γ -> γ -> Bool) (l : List γ) : Prop where
 tr : ∀ x ∈ l, ∀ y ∈ l, ∀ z ∈ l, lt x y = true -> lt y z = true -> lt x z = true
 ntr : ∀ x ∈ l, ∀ y ∈ l, ∀ z ∈ l, lt x y = false -> lt y z = false -> lt x z = false
 irr : ∀ x ∈ l, lt x x = false
theorem wQ {lt : γ -> γ -> Bool} {L : List γ} (h : BO lt L) (x : γ) (hx : x ∈ L) : ∀ l : List γ, (∀ y ∈ l, y ∈ L) -> l.Pairwise (fun a b => lt b a = false) -> (kV lt x l).Pairwise (fun a b => lt b a = false)
 | [], _, _ => List.pairwise_singleton _ _
 | y :: l, hl, hp => by
  obtain ⟨h1, h2⟩ := List.pairwise_cons.1 hp
  have hy := hl y (by simp)
  unfold kV
  split
  · rename_i hlt
    refine List.pairwise_cons.2 ⟨fun z hz => ?_, wQ h x hx l (fun z hz => hl z (by simp [hz])) h2⟩
    rcases List.mem_cons.1 ((o8 lt x l).mem_iff.1 hz) with rfl | hz
    · cases hc : lt z y with
      | false => rfl
      | true => have := h.tr _ hy _ hx _ hy hlt hc; rw [h.irr _ hy] at this; cases this
    · exact h1 z hz
  · rename_i hlt
    have hlt : lt y x = false := by simpa using hlt
    refine List.pairwise_cons.2 ⟨fun z hz => ?_, hp⟩
    rcases List.mem_cons.1 hz with rfl | hz
    · exact hlt
    · exact h.ntr _ (hl z (by simp [hz])) _ hy _ hx (h1 z hz) hlt
theorem u7 {lt : γ -> γ -> Bool} {L : List γ} (h : BO lt L) : ∀ l : List γ, (∀ y ∈ l, y ∈ L) -> (fG lt l).Pairwise (fun a b => lt b a = false)
 | [], _ => List.Pairwise.nil
 | x :: l, hl => wQ h x (hl x (by simp)) _ (fun y hy => hl y (by simp [(nF lt l).mem_iff.1 hy])) (u7 h l fun y hy => hl y (by simp [hy]))
theorem yn [DecidableEq γ] {cmp : γ -> γ -> Option Int} {l l' : List γ} (h : pP cmp l = some l') : yD (cfO cmp) l l' /\ ∀ x ∈ l, ∀ y ∈ l, cmp x y = some (cfO cmp x y) := by
 unfold pP at h
 split at h
 · rename_i hok
   cases h
   unfold s8 at hok
   rw [List.all_eq_true] at hok
   have irr : ∀ x ∈ l, ¬ cfO cmp x x < 0 := fun x hx => by
    have := hok x hx
    rw [Bool.and_eq_true] at this
    exact dcT this.1
   have hxy : ∀ x ∈ l, ∀ y ∈ l, (cmp x y).isSome = true /\ (cfO cmp x y < 0 \/ cfO cmp y x < 0 \/ x = y) /\ ∀ z ∈ l, (cfO cmp x y < 0 -> cfO cmp y z < 0 -> cfO cmp x z < 0) /\ (¬ cfO cmp x y < 0 -> ¬ cfO cmp y z < 0 -> ¬ cfO cmp x z < 0) := fun x hx y hy => by
    have h1 := hok x hx
    rw [Bool.and_eq_true, List.all_eq_true] at h1
    have h2 := h1.2 y hy
    rw [Bool.and_eq_true, Bool.and_eq_true, List.all_eq_true] at h2
    refine ⟨h2.1, dcT h2.2.1, fun z hz => ?_⟩
    have h3 := h2.2.2 z hz
    rw [Bool.and_eq_true] at h3
    exact ⟨dcT h3.1, dcT h3.2⟩
   have tr := fun x hx y hy z hz => ((hxy x hx y hy).2.2 z hz).1
   have ntr := fun x hx y hy z hz => ((hxy x hx y hy).2.2 z hz).2
   have hL : BO (fun x y => decide (cfO cmp x y < 0)) l := ⟨fun x hx y hy z hz h1 h2 => decide_eq_true (tr x hx y hy z hz (dcT h1) (dcT h2)), fun x hx y hy z hz h1 h2 => decide_eq_false (ntr x hx y hy z hz (dcF h1) (dcF h2)), fun x hx => decide_eq_false (irr x hx)⟩
   refine ⟨⟨irr, tr, ntr, fun l'' hp hw => ?_⟩, fun x hx y hy => ?_⟩
   · have hp2 := nF (fun x y => decide (cfO cmp x y < 0)) l
     have hw2 := u7 hL l (fun _ h => h)
     refine List.Perm.eq_of_pairwise (le := fun a b => ¬ cfO cmp b a < 0) (fun a b ha hb h1 h2 => ?_) hw (hw2.imp fun h => dcF h) (hp.trans hp2.symm)
     rcases (hxy a (hp.mem_iff.1 ha) b (hp2.mem_iff.1 hb)).2.1 with h | h | h
     · exact absurd h h2
     · exact absurd h h1
     · exact h
   · have := (hxy x hx y hy).1
     unfold cfO
     cases hc : cmp x y with
     | none => rw [hc] at this; cases this
     | some r => rfl
 · cases h
end
end Go.L


set_option linter.unusedVariables false
namespace Go.Eng
open Go Go.RowKit Go.Proofs
variable [Dr]
variable {K : Nat} {P : Program}
theorem bx.Ab {k : Nat} {Hc : List Blk} {caps : List AV} {f g : FuncId} (hs : ∀ (p : Option Addr) (cap : Nat) (fv : Value) (w : World), Calls P f #[.slice p 0 cap, fv] w fun e w' => e = .returned (.tuple #[]) /\ w' = w) :
  bx K P f [.hs 0 0 0 k, .fn g [] caps] (.own [] :: Hc) (fR []) (.own [] :: Hc) := by
 intro out B w Z vs hI ha
 obtain ⟨v, vs', rfl, hv, v2, vs2, rfl, hf, hnil⟩ := ha
 have hnil : vs2 = [] := hnil
 subst hnil
 have fin : ∀ e w', (e = Ending.returned (.tuple #[]) /\ w' = w) -> ∃ u Z', e = .returned u /\ EK K B w w' (aH out Z (.own [] :: Hc)) (aH out Z' (.own [] :: Hc)) Z Z' /\ Inv out B w' Z' (.own [] :: Hc) /\ Rv w' (aH out Z' (.own [] :: Hc)) Z' (fR []) u := by
  rintro e w' ⟨rfl, rfl⟩
  exact ⟨_, Z, rfl, EK.id, hI, ⟨#[], rfl, rfl⟩⟩
 rcases hv with ⟨_, rfl⟩ | ⟨p, a, cap, hp, rfl, hcap, hspot, ha⟩
 · exact (hs none 0 v2 w).mono fin
 · exact (hs (some a) cap v2 w).mono fin
end Go.Eng


set_option linter.unusedVariables false
namespace Go.Eng
open Go Go.RowKit Go.Proofs
variable [Dr]
variable {K : Nat} {P : Program}
theorem bx.AK {γ : Type} [DecidableEq γ] {c : γ -> List AV} {k : Nat} {cmp : γ -> γ -> Option Int} {zs zs' : List γ} {Hc : List Blk} {caps caps' : List AV} {f g : FuncId}
  (hs : jK P f g k) (hn : ∀ (p : Option Addr) (cap : Nat) (fv : Value) (w : World), Calls P f #[.slice p 0 cap, fv] w fun e w' => e = .returned (.tuple #[]) /\ w' = w)
  (hk : ∀ x, (c x).length = k) (hpure : ∀ x, cn (c x) = [])
  (h : Go.L.pP cmp zs = some zs') (hlen : zs.length < 4611686018427387904)
  (hcaps : SnL (.own (zs.flatMap c) :: Hc) (fun b => b != 0) caps caps')
  (hcmp : ∀ x y r, cmp x y = some r -> @bo ⟨true⟩ P g ([.agg (c x), .agg (c y)] ++ caps') (.at (.int .i64 r))) :
  bx K P f [.hs 0 0 zs.length k, .fn g [] caps] (.own (zs.flatMap c) :: Hc) (fR []) (.own (zs'.flatMap c) :: Hc) := by
 obtain ⟨hS, hr⟩ := Go.L.yn h
 cases zs with
 | nil =>
  have : zs' = [] := by
   have := h
   unfold Go.L.pP at this
   split at this
   · cases this; rfl
   · cases this
  subst this
  exact bx.Ab hn
 | cons z zs => exact bx.CL hs hk hpure (by simp) hlen hcaps (fun x hx y hy => hcmp x y _ (hr x hx y hy)) hS
end Go.Eng


set_option linter.unusedVariables false
namespace Go.Eng
open Go Go.RowKit Go.Proofs
variable [Dr]
variable {K : Nat} {P : Program}
end Go.Eng

