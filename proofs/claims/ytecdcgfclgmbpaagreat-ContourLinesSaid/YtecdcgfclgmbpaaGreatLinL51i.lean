import Derived.Test.YtecdcgfclgmbpaaGreatLinL51g
import Derived.Test.YtecdcgfclgmbpaaGreatLinLsrt
import Derived.Test.YtecdcgfclgmbpaaGreatLinL52tB
import Derived.Test.YtecdcgfclgmbpaaGreatLinL02pB
set_option linter.all false
namespace Go.L
open Go Go.Eng
def vA (S : List (K2 × K2)) (a b d : Nat) : List K2 := ((List.range' b d).map fun c : Nat => (A2.mk (a : Int) (c : Int) : K2)).filter (dG S)
def jX (S : List (K2 × K2)) (m a d : Nat) : List K2 := (List.range' a d).flatMap fun a => vA S a (a + 1) (m - (a + 1))
theorem Bf {S : List (K2 × K2)} {a b d : Nat} : vA S a b (d + 1) = (if dG S (A2.mk (a : Int) (b : Int)) = true then [A2.mk (a : Int) (b : Int)] else []) ++ vA S a (b + 1) d := by
 unfold vA
 rw [List.range'_succ, List.map_cons, List.filter_cons]
 split <;> rfl
theorem zz {S : List (K2 × K2)} {m a d : Nat} : jX S m a (d + 1) = vA S a (a + 1) (m - (a + 1)) ++ jX S m (a + 1) d := by
 unfold jX
 rw [List.range'_succ, List.flatMap_cons]
theorem CK {g : al} {level : Int} {w h : Nat} (hg : Gd g w h) (hb : g.Z.any pQ = false) (h40 : g.Z.length <= 40) {S : List (K2 × K2)} (eS : rP g w h level = S) {P : K2 -> Prop} (hS : S.Pairwise Rq) (hG : Ge S P)
  (hP : ∀ e, P e -> bx 20000 g level e = some (crR g level e)) (hl : S.length <= 60) {F : List ae -> List ae}
  (hF : ∀ c, Op S (crR g level) ((S.map (·.1)).filter (opn S)) c -> ∀ out, out = c.2 ++ (CLs S (jX S g.Z.length 0 g.Z.length) (dn c.1)).map (toC (crR g level) true) -> Ok (aN (α := List ae × Int) (β := List ae) 20000 (fun again114 (all_83, x_84) => (
            cdO (decide (x_84 < (out.length : Int))) (
             bdO (aN (α := List ae × Int) (β := List ae) 20000 (fun again129 (all_116, j_117) => (
              cdO (decide (j_117 > 0)) (
               gdO (inR j_117 all_116.length) (
               bdO (bm 20000 (gt all_116 j_117)) fun v132 => (
               gdO (inR (FK (j_117 - 1)) all_116.length) (
               bdO (bm 20000 (gt all_116 (FK (j_117 - 1)))) fun v135 => (
               bdO (dh 20000 v132 v135) fun v137 => (
               cdO v137 (
                again129 ((all_116.set j_117.toNat (gt all_116 (FK (j_117 - 1)))).set (FK (j_117 - 1)).toNat (gt all_116 j_117), FK (j_117 - 1))
               ) (
                some (all_116)
               )
               )
               )
               )
               )
               )
              ) (
               some (all_116)
              )
             )) (all_83, x_84)) fun all_128 => (
              again114 (all_128, FK (x_84 + 1))
             )
            ) (
             some (all_83)
            )
   )) (out, 0)) fun r => r = F out) :
  Ok (eM 20000 g level) fun r => ∃ c, Op S (crR g level) ((S.map (·.1)).filter (opn S)) c /\ r = F (c.2 ++ (CLs S (jX S g.Z.length 0 g.Z.length) (dn c.1)).map (toC (crR g level) true)) := by
 have hT : (kI g w h).length <= 8000 := by
  have h1 := List.length_filter_le (nW g.Z) (nu g.Width (w - 1) (h - 1))
  rw [uP, Nat.mul_assoc] at h1
  have := Nat.mul_le_mul (show w - 1 <= 63 by have := hg.w1; omega) (show h - 1 <= 63 by have := hg.h1; omega)
  unfold kI; omega
 have hk : ∀ q ∈ S, dG S q.1 = true := fun q hq => lU.2 ⟨q, hq, rfl⟩
 have hnd : (S.map (·.1)).Nodup := by
  unfold List.Nodup; rw [List.pairwise_map]; exact hS.imp fun h => h.1
 unfold eM
 refine Ok.bde (DV (by omega) hg hb hT) ?_
 rw [eS]
 refine Ok.bd (R := fun o => o = (S, bk S)) ?_ ?_
 · refine fr (γ := List (K2 × K2) × List (K2 × Bool)) (len := S.length) (fun c x => (c.1, c.2, x)) (fun k c => c = (S.take k, (S.take k).map fun q => (q.2, true))) (by omega) (by omega) (c0 := ([], [])) rfl ?_ ?_
   · rintro again k c hk2 rfl ih
     dsimp only
     have hk3 : k < (S.map fun q => (A2.mk q.1 q.2 : A2 K2)).length := by rw [List.length_map]; exact hk2
     refine Ok.cd (fun _ => ?_) (fun h => by have := dcF h; rw [List.length_map] at this; omega)
     refine Ok.gd (by rw [bg]; exact decide_eq_true hk3) ?_
     rw [vO hk3, List.getElem_map]
     refine ih (stM (S.take k, (S.take k).map fun q => (q.2, true)) S[k]) ?_
     have hs : (S.take (k + 1)).Pairwise Rq := hS.sublist (List.take_sublist _ _)
     rw [oA hk2] at hs ⊢
     have := vV [S[k]] (S.take k) hs
     exact this
   · rintro again c rfl
     refine Ok.cd (fun h => by have := dcT h; rw [List.length_map] at this; omega) (fun _ => aw.2 ?_)
     dsimp only
     rw [List.take_length]; rfl
 rintro o rfl
 dsimp only
 refine Ok.bd (R := fun c => Op S (crR g level) ((S.map (·.1)).filter (opn S)) c /\ c.2.length <= 60) ?_ ?_
 · refine fr (γ := List (K2 × Bool) × List ae) (len := S.length) (fun c x => (c.1, c.2, x)) (fun k c => Op S (crR g level) (((S.map (·.1)).take k).filter (opn S)) c /\ c.2.length <= k) (by omega) (by omega) (c0 := ([], [])) ⟨BS, by simp⟩ ?_ ?_
   · rintro again k c hk2 ⟨hO, hc⟩ ih
     have hk3 : k < (S.map fun q => (A2.mk q.1 q.2 : A2 K2)).length := by rw [List.length_map]; exact hk2
     have hk4 : k < (S.map (·.1)).length := by rw [List.length_map]; exact hk2
     have e2 : ((S.map (·.1)).take (k + 1)).filter (opn S) = ((S.map (·.1)).take k).filter (opn S) ++ (if opn S S[k].1 = true then [S[k].1] else []) := by
      rw [oA hk4, List.filter_append, List.getElem_map]
      by_cases h : opn S S[k].1 = true
      · rw [if_pos h]; simp [h]
      · rw [if_neg h]; simp [h]
     have hm : S[k].1 ∉ ((S.map (·.1)).take k).filter (opn S) := fun h => by
      have := vB hk4 hnd
      rw [List.getElem_map] at this
      exact this (List.mem_filter.1 h).1
     have hp := (hG.k _ (List.getElem_mem hk2)).1
     rw [e2] at ih
     dsimp only
     refine Ok.cd (fun _ => ?_) (fun h => by have := dcF h; rw [List.length_map] at this; omega)
     refine Ok.gd (by rw [bg]; exact decide_eq_true hk3) ?_
     rw [vO hk3, List.getElem_map]
     refine Ok.cd (fun h => ?_) (fun h => ?_)
     · have h : opn S S[k].1 = true := h
       rw [if_pos h] at ih
       have hst : isS S S[k].1 := u6 hS (by unfold opn bk at h; simpa using h)
       obtain ⟨hd, hW, hO2⟩ := hO.step hS hl hst hm
       refine Ok.bde (zh hG hP hl hp (by omega)) ?_
       rw [hW]
       exact ih (jt c.1 (path S S[k].1), c.2 ++ [ae.mk false ((path S S[k].1).map (crR g level))]) ⟨hO2, by dsimp only; rw [List.length_append, List.length_singleton]; omega⟩
     · have h : opn S S[k].1 = false := h
       rw [if_neg (by rw [h]; simp), List.append_nil] at ih
       exact ih c ⟨hO, by omega⟩
   · rintro again c ⟨hO, hc⟩
     rw [List.take_of_length_le (by rw [List.length_map]; omega)] at hO
     dsimp only
     exact Ok.cd (fun h => by have := dcT h; rw [List.length_map] at this; omega) (fun _ => aw.2 ⟨hO, show c.2.length <= 60 by omega⟩)
 rintro c0 ⟨hO, hc0⟩
 refine Ok.bd (R := fun o => o = c0.2 ++ (CLs S (jX S g.Z.length 0 g.Z.length) (dn c0.1)).map (toC (crR g level) true)) ?_ ?_
 · refine fr (γ := List (K2 × Bool) × List ae) (len := g.Z.length) (fun c x => (c.1, c.2, x)) (fun a c => c.2 ++ (CLs S (jX S g.Z.length a (g.Z.length - a)) (dn c.1)).map (toC (crR g level) true) = c0.2 ++ (CLs S (jX S g.Z.length 0 g.Z.length) (dn c0.1)).map (toC (crR g level) true) /\ c.2.length <= 60 + a * 40) (by omega) (by omega) (c0 := c0) ⟨rfl, by omega⟩ ?_ ?_
   · rintro again a c ha ⟨hE, hc⟩ ih
     rw [show g.Z.length - a = (g.Z.length - (a + 1)) + 1 by omega, zz] at hE
     dsimp only
     refine Ok.cd (fun _ => ?_) (fun h => by have := dcF h; omega)
     refine Ok.bd (R := fun o => o.2 ++ (CLs S (jX S g.Z.length (a + 1) (g.Z.length - (a + 1))) (dn o.1)).map (toC (crR g level) true) = c0.2 ++ (CLs S (jX S g.Z.length 0 g.Z.length) (dn c0.1)).map (toC (crR g level) true) /\ o.2.length <= 60 + (a + 1) * 40) ?_ (fun o ho => ih o ho)
     rw [wrap64_in (by omega) (by omega), show ((a : Int) + 1) = ((a + 1 : Nat) : Int) by omega]
     have key : ∀ (d b m : Nat) (c : List (K2 × Bool) × List ae), b + d = g.Z.length -> d < m -> c.2.length + d <= 60 + (a + 1) * 40 -> c.2 ++ (CLs S (vA S a b d ++ jX S g.Z.length (a + 1) (g.Z.length - (a + 1))) (dn c.1)).map (toC (crR g level) true) = c0.2 ++ (CLs S (jX S g.Z.length 0 g.Z.length) (dn c0.1)).map (toC (crR g level) true) ->
       Ok (aN (α := List (K2 × Bool) × List ae × Int) (β := List (K2 × Bool) × List ae) m (fun again71 (done_61, all_62, b_63) => (
             cdO (decide (b_63 < (g.Z.length : Int))) (
              cdO (dG S (A2.mk (a : Int) b_63)) (
               cdO (!(getM false done_61 (A2.mk (a : Int) b_63))) (
                bdO (cE 20000 (A2.mk (a : Int) b_63) true done_61 S g.X0 g.Y0 g.Step g.Width g.Height g.Z level all_62) fun v75 => (
                again71 (v75.1, v75.2, FK (b_63 + 1))
                )
               ) (
                again71 (done_61, all_62, FK (b_63 + 1))
               )
              ) (
               again71 (done_61, all_62, FK (b_63 + 1))
              )
             ) (
              some ((done_61, all_62))
             ))) (c.1, c.2, (b : Int))) fun o => o.2 ++ (CLs S (jX S g.Z.length (a + 1) (g.Z.length - (a + 1))) (dn o.1)).map (toC (crR g level) true) = c0.2 ++ (CLs S (jX S g.Z.length 0 g.Z.length) (dn c0.1)).map (toC (crR g level) true) /\ o.2.length <= 60 + (a + 1) * 40 := by
      intro d
      induction d with
      | zero =>
       intro b m c hbd hm hc hE
       obtain ⟨m, rfl⟩ : ∃ k, m = k + 1 := ⟨m - 1, by omega⟩
       rw [kj]
       refine Ok.cd (fun h => by have := dcT h; omega) (fun _ => aw.2 ⟨hE, show c.2.length <= _ by omega⟩)
      | succ d ihd =>
       intro b m c hbd hm hc hE
       obtain ⟨m, rfl⟩ : ∃ k, m = k + 1 := ⟨m - 1, by omega⟩
       have nx : FK ((b : Int) + 1) = ((b + 1 : Nat) : Int) := by rw [wrap64_in (by omega) (by omega)]; omega
       rw [Bf] at hE
       rw [kj]
       dsimp only
       rw [nx]; clear nx
       refine Ok.cd (fun _ => ?_) (fun h => by have := dcF h; omega)
       cases hh : dG S (A2.mk (a : Int) (b : Int)) with
       | false =>
        rw [hh, if_neg (by simp), List.nil_append] at hE
        exact Ok.cd (fun h => by cases h) (fun _ => ihd (b + 1) m c (by omega) (by omega) (by omega) hE)
       | true =>
        rw [hh, if_pos rfl, List.append_assoc] at hE
        have hp : P (A2.mk (a : Int) (b : Int)) := by
         obtain ⟨q, hq, e⟩ := lU.1 hh
         rw [<- e]; exact (hG.k q hq).1
        refine Ok.cd (fun _ => Ok.cd (fun h => ?_) (fun h => ?_)) (fun h => by cases h)
        · have h : dn c.1 (A2.mk (a : Int) (b : Int)) = false := by
           have : (!dn c.1 (A2.mk (a : Int) (b : Int))) = true := h
           simpa using this
          have hE : c.2 ++ (CLs S (A2.mk (a : Int) (b : Int) :: (vA S a (b + 1) d ++ jX S g.Z.length (a + 1) (g.Z.length - (a + 1)))) (dn c.1)).map (toC (crR g level) true) = _ := hE
          rw [AH h, List.map_cons] at hE
          have h41 : (a + 1) * 40 <= 40 * 40 := Nat.mul_le_mul_right 40 (by omega)
          refine Ok.bde (zh hG hP hl hp (by omega)) ?_
          refine ihd (b + 1) m (jt c.1 (W S 100 (dn c.1) (A2.mk (a : Int) (b : Int))), c.2 ++ [ae.mk true ((W S 100 (dn c.1) (A2.mk (a : Int) (b : Int))).map (crR g level))]) (by omega) (by omega) (by dsimp only; rw [List.length_append, List.length_singleton]; omega) ?_
          rw [<- hE, List.append_assoc]; rfl
        · have h : dn c.1 (A2.mk (a : Int) (b : Int)) = true := by
           have : (!dn c.1 (A2.mk (a : Int) (b : Int))) = false := h
           simpa using this
          have hE : c.2 ++ (CLs S (A2.mk (a : Int) (b : Int) :: (vA S a (b + 1) d ++ jX S g.Z.length (a + 1) (g.Z.length - (a + 1)))) (dn c.1)).map (toC (crR g level) true) = _ := hE
          rw [yh h] at hE
          exact ihd (b + 1) m c (by omega) (by omega) (by omega) hE
     exact key (g.Z.length - (a + 1)) (a + 1) 20000 c (by omega) (by omega) (by rw [Nat.add_mul]; omega) hE
   · rintro again c ⟨hE, hc⟩
     rw [Nat.sub_self] at hE
     dsimp only
     refine Ok.cd (fun h => by have := dcT h; omega) (fun _ => aw.2 ?_)
     rw [<- hE]
     show c.2 = c.2 ++ []
     rw [List.append_nil]
 rintro out hout
 refine Ok.bd (hF c0 hO out hout) (fun r hr => aw.2 ⟨c0, hO, by rw [hr, hout]⟩)
end Go.L


set_option linter.all false
namespace Go.L
open Go Go.Eng
def kap (e : K2) : Int := e.e0 * 4096 + e.e1
structure Cr (Z : List Int) (level : Int) (e : K2) : Prop where
 i0 : inR e.e0 Z.length = true
 i1 : inR e.e1 Z.length = true
 z0 : rj (gt Z e.e0)
 z1 : rj (gt Z e.e1)
 ne : gt Z e.e0 ≠ gt Z e.e1
 lt : e.e0 < e.e1
theorem Cr.bd {Z : List Int} {level : Int} {e : K2} (h : Cr Z level e) : 0 <= e.e0 /\ e.e0 < e.e1 /\ e.e1 < Z.length := by
 have a := lO.1 h.i0; have b := lO.1 h.i1; have := h.lt; omega
theorem th {Z : List Int} {level : Int} (hZ : Z.length <= 40) {e f : K2} (he : Cr Z level e) (hf : Cr Z level f) (h : kap e = kap f) : e = f := by
 have a := he.bd; have b := hf.bd
 unfold kap at h
 obtain ⟨e0, e1⟩ := e; obtain ⟨f0, f1⟩ := f
 dsimp only at *
 have h0 : e0 = f0 := by omega
 subst h0
 have h1 : e1 = f1 := by omega
 rw [h1]
def crE (Z : List Int) (level : Int) (e : K2) : Rat := Rat.divInt (level - 2 * gt Z e.e0) (2 * (gt Z e.e1 - gt Z e.e0))
theorem uR {g : al} {level : Int} (hl : -2097153 <= level /\ level <= 2097153) {e : K2} (h : Cr g.Z level e) : cC 20000 g level e = some (crP g level e) /\ (crP g level e).A = e.e0 /\ (crP g level e).B = e.e1 /\ Qx (crP g level e).At (crE g.Z level e) 3 := by
 have key : Ok (cC 20000 g level e) fun c => c.A = e.e0 /\ c.B = e.e1 /\ Qx c.At (crE g.Z level e) 3 := by
  unfold cC
  have a := h.z0; have b := h.z1; have n := h.ne
  unfold rj at a b
  refine Ok.gd h.i0 (Ok.gd h.i1 ?_)
  rw [wrap64_in (n := 2 * gt g.Z e.e0) (by omega) (by omega), wrap64_in (n := level - 2 * gt g.Z e.e0) (by omega) (by omega), wrap64_in (n := gt g.Z e.e1 - gt g.Z e.e0) (by omega) (by omega), wrap64_in (n := 2 * (gt g.Z e.e1 - gt g.Z e.e0)) (by omega) (by omega)]
  refine Ok.bd (zp (by omega) (by omega) (by omega) (by omega) (by omega) (by omega)) ?_
  rintro v ⟨hv, -⟩
  exact aw.2 ⟨rfl, rfl, hv⟩
 obtain ⟨c, e1, e2⟩ := key
 have : crP g level e = c := by unfold crP; rw [e1]; rfl
 rw [this]; exact ⟨e1, e2⟩
theorem uM {g : al} {level : Int} (hl : -2097153 <= level /\ level <= 2097153) {e : K2} (h : Cr g.Z level e) : bx 20000 g level e = some (crR g level e) /\ (crR g level e).A = e.e0 /\ (crR g level e).B = e.e1 /\ R.Qx (crR g level e).At (crE g.Z level e) 3 := by
 have key : Ok (bx 20000 g level e) fun c => c.A = e.e0 /\ c.B = e.e1 /\ R.Qx c.At (crE g.Z level e) 3 := by
  unfold bx
  have a := h.z0; have b := h.z1; have n := h.ne
  unfold rj at a b
  refine Ok.gd h.i0 (Ok.gd h.i1 ?_)
  rw [wrap64_in (n := 2 * gt g.Z e.e0) (by omega) (by omega), wrap64_in (n := level - 2 * gt g.Z e.e0) (by omega) (by omega), wrap64_in (n := gt g.Z e.e1 - gt g.Z e.e0) (by omega) (by omega), wrap64_in (n := 2 * (gt g.Z e.e1 - gt g.Z e.e0)) (by omega) (by omega)]
  refine Ok.bd (R.zp (by omega) (by omega) (by omega) (by omega) (by omega) (by omega)) ?_
  rintro v ⟨hv, -⟩
  exact aw.2 ⟨rfl, rfl, hv⟩
 obtain ⟨c, e1, e2⟩ := key
 have : crR g level e = c := by unfold crR; rw [e1]; rfl
 rw [this]; exact ⟨e1, e2⟩
theorem Dd {g : al} {level : Int} {w h : Nat} (hg : Gd g w h) (hb : g.Z.any pQ = false) : Ge (rP g w h level) (Cr g.Z level) := by
 refine ⟨fun q hq => ?_⟩
 unfold rP at hq
 obtain ⟨t, ht, e⟩ := List.mem_filterMap.1 hq
 have hT := D2 hb hg ht
 have t0 := hT 0 (by omega); have t1 := hT 1 (by omega); have t2 := hT 2 (by omega)
 change inR t.e0 g.Z.length = true /\ rj (gt g.Z t.e0) at t0
 change inR t.e1 g.Z.length = true /\ rj (gt g.Z t.e1) at t1
 change inR t.e2 g.Z.length = true /\ rj (gt g.Z t.e2) at t2
 have corner : ∀ {a b : Int}, (a, b) ∈ dE t -> (inR a g.Z.length = true /\ rj (gt g.Z a)) /\ inR b g.Z.length = true /\ rj (gt g.Z b) := by
  intro a b h
  simp only [dE, List.mem_cons, List.not_mem_nil, or_false, Prod.mk.injEq] at h
  rcases h with ⟨rfl, rfl⟩ | ⟨rfl, rfl⟩ | ⟨rfl, rfl⟩
  · exact ⟨t0, t1⟩
  · exact ⟨t1, t2⟩
  · exact ⟨t2, t0⟩
 have mk : ∀ {a b : Int}, (a, b) ∈ dE t -> abv g.Z level a ≠ abv g.Z level b -> Cr g.Z level (A2.mk (mn a b) (mx a b)) := by
  intro a b hm hn
  obtain ⟨⟨a1, a2⟩, b1, b2⟩ := corner hm
  have hz : gt g.Z a ≠ gt g.Z b := fun h => hn (by unfold abv; rw [h])
  have hab : a ≠ b := fun h => hz (by rw [h])
  unfold mn mx
  by_cases h : b < a
  · rw [if_pos h, if_neg (by omega)]; exact ⟨b1, a1, b2, a2, fun k => hz k.symm, h⟩
  · rw [if_neg h, if_pos (by omega)]; exact ⟨a1, b1, a2, b2, hz, by show a < b; omega⟩
 obtain ⟨⟨a, b, m1, x1, y1, e1⟩, ⟨c, d, m2, x2, y2, e2⟩⟩ := wc e
 rw [e1, e2]
 exact ⟨mk m1 (by rw [x1, y1]; simp), mk m2 (by rw [x2, y2]; simp)⟩
def fK (c : ae) : K2 := A2.mk (gt c.Points 0).A (gt c.Points 0).B
def kC (c : ae) : Int := kap (fK c)
def okC (c : ae) : Prop := 0 < c.Points.length /\ 0 <= (fK c).e0 /\ (fK c).e0 < 40 /\ 0 <= (fK c).e1 /\ (fK c).e1 < 40
theorem xh {a b : K2} (ha : 0 <= a.e0 /\ a.e0 < 40 /\ 0 <= a.e1 /\ a.e1 < 40) (hb : 0 <= b.e0 /\ b.e0 < 40 /\ 0 <= b.e1 /\ b.e1 < 40) : ∃ c, dO 20000 a b = some c /\ (c < 0 ↔ kap a < kap b) := by
 unfold dO kap
 by_cases h : a.e0 = b.e0
 · rw [show (a.e0 != b.e0) = false by simpa using h]
   refine ⟨_, rfl, ?_⟩
   rw [wrap64_in (by omega) (by omega)]; omega
 · rw [show (a.e0 != b.e0) = true by simpa using h]
   refine ⟨_, rfl, ?_⟩
   rw [wrap64_in (by omega) (by omega)]; omega
theorem Ah {c : ae} (h : okC c) : eu 20000 c = some (fK c) := by
 unfold eu
 rw [show inR 0 c.Points.length = true by rw [lO]; have := h.1; omega]; rfl
theorem AB {c : ae} (h : okC c) : bm 20000 c = some (fK c) := by
 unfold bm
 rw [show inR 0 c.Points.length = true by rw [lO]; have := h.1; omega]; rfl
theorem Ce {a b : ae} (ha : okC a) (hb : okC b) : ∃ c, iN 20000 a b = some c /\ (c < 0 ↔ kC a < kC b) := by
 obtain ⟨c, e, h⟩ := xh (a := fK a) (b := fK b) ha.2 hb.2
 refine ⟨c, ?_, h⟩
 unfold iN
 rw [Ah ha, Ah hb]
 show bdO (dO 20000 (fK a) (fK b)) _ = _
 rw [e]; rfl
theorem DY {a b : K2} (ha : 0 <= a.e0 /\ a.e0 < 40 /\ 0 <= a.e1 /\ a.e1 < 40) (hb : 0 <= b.e0 /\ b.e0 < 40 /\ 0 <= b.e1 /\ b.e1 < 40) : dh 20000 a b = some (decide (kap a < kap b)) := by
 unfold dh kap
 by_cases h : a.e0 < b.e0
 · rw [decide_eq_true h, decide_eq_true (show a.e0 * 4096 + a.e1 < b.e0 * 4096 + b.e1 by omega)]; rfl
 · rw [decide_eq_false h]
   by_cases h1 : a.e0 = b.e0
   · rw [show (a.e0 == b.e0) = true by simpa using h1]
     show some (decide (a.e1 < b.e1)) = _
     congr 1
     rw [decide_eq_decide]; omega
   · rw [show (a.e0 == b.e0) = false by simpa using h1, decide_eq_false (show ¬ a.e0 * 4096 + a.e1 < b.e0 * 4096 + b.e1 by omega)]; rfl
theorem yr {α β : Type} {f : α -> β} {p : β -> Int} {q : α -> Int} {x : α} : ∀ {l : List α}, (∀ y ∈ l, p (f y) = q y) -> p (f x) = q x -> lE (ltK p) (f x) (l.map f) = (lE (ltK q) x l).map f
 | [], _, _ => rfl
 | y :: l, h, hx => by
  have hy := h y (by simp)
  show (if decide (p (f y) < p (f x)) = true then f y :: lE (ltK p) (f x) (l.map f) else f x :: f y :: l.map f) = (if decide (q y < q x) = true then y :: lE (ltK q) x l else x :: y :: l).map f
  rw [hy, hx]
  split
  · rw [List.map_cons, yr (fun z hz => h z (List.mem_cons_of_mem _ hz)) hx]
  · rfl
theorem tp {α β : Type} {f : α -> β} {p : β -> Int} {q : α -> Int} : ∀ {l : List α}, (∀ y ∈ l, p (f y) = q y) -> gv (ltK p) (l.map f) = (gv (ltK q) l).map f
 | [], _ => rfl
 | x :: l, h => by
  show lE (ltK p) (f x) (gv (ltK p) (l.map f)) = (lE (ltK q) x (gv (ltK q) l)).map f
  rw [tp fun y hy => h y (List.mem_cons_of_mem _ hy)]
  exact yr (fun y hy => h y (by
   rw [gz] at hy; exact List.mem_cons_of_mem _ hy)) (h x (by simp))
theorem DP {l : List ae} (hl : l.length <= 200) (h : ∀ c ∈ l, okC c) (hd : l.Pairwise fun a b => kC a ≠ kC b) : aL 20000 l = some (gv (ltK kC) l) := by
 unfold aL
 rw [decide_eq_true (show l.length < 4611686018427387904 by omega)]
 refine wI (fun x y hx hy => Ce (h x hx) (h y hy)) fun x y hx hy e => ?_
 apply Classical.byContradiction
 intro hn
 exact zr (R := fun a b => kC a ≠ kC b) (fun a b h k => h k.symm) hd x hx y hy hn e
theorem Bn {l : List K2} (hl : l.length <= 200) (h : ∀ e ∈ l, 0 <= e.e0 /\ e.e0 < 40 /\ 0 <= e.e1 /\ e.e1 < 40) : aA 20000 l = some (gv (ltK kap) l) := by
 unfold aA
 rw [decide_eq_true (show l.length < 4611686018427387904 by omega)]
 refine wI (fun x y hx hy => xh (h x hx) (h y hy)) fun x y hx hy e => ?_
 have a := h x hx; have b := h y hy
 unfold kap at e
 obtain ⟨x0, x1⟩ := x; obtain ⟨y0, y1⟩ := y
 dsimp only at *
 have h0 : x0 = y0 := by omega
 subst h0
 have h1 : x1 = y1 := by omega
 rw [h1]
def gK : ae -> ae -> Bool := ltK fun c => -kC c
theorem Eh {out : List ae} (hl : out.length <= 10000) (h : ∀ c ∈ out, okC c) : Ok (aN (α := List ae × Int) (β := List ae) 20000 (fun again114 (all_83, x_84) => (
              cdO (decide (x_84 < (out.length : Int))) (
               bdO (aN (α := List ae × Int) (β := List ae) 20000 (fun again129 (all_116, j_117) => (
                cdO (decide (j_117 > 0)) (
                 gdO (inR j_117 all_116.length) (
                 bdO (bm 20000 (gt all_116 j_117)) fun v132 => (
                 gdO (inR (FK (j_117 - 1)) all_116.length) (
                 bdO (bm 20000 (gt all_116 (FK (j_117 - 1)))) fun v135 => (
                 bdO (dh 20000 v132 v135) fun v137 => (
                 cdO v137 (
                  again129 ((all_116.set j_117.toNat (gt all_116 (FK (j_117 - 1)))).set (FK (j_117 - 1)).toNat (gt all_116 j_117), FK (j_117 - 1))
                 ) (
                  some (all_116)
                 )
                 )
                 )
                 )
                 )
                 )
                ) (
                 some (all_116)
                )
               )) (all_83, x_84)) fun all_128 => (
                again114 (all_128, FK (x_84 + 1))
               )
              ) (
               some (all_83)
              )
 )) (out, 0)) fun r => r = (gv gK out.reverse).reverse := by
 have inner : ∀ (r suf : List ae) (x : ae) (m : Nat), r.length < m -> r.length <= 10000 -> (∀ c ∈ r, okC c) -> okC x -> Ok (aN (α := List ae × Int) (β := List ae) m (fun again129 (all_116, j_117) => (
                 cdO (decide (j_117 > 0)) (
                  gdO (inR j_117 all_116.length) (
                  bdO (bm 20000 (gt all_116 j_117)) fun v132 => (
                  gdO (inR (FK (j_117 - 1)) all_116.length) (
                  bdO (bm 20000 (gt all_116 (FK (j_117 - 1)))) fun v135 => (
                  bdO (dh 20000 v132 v135) fun v137 => (
                  cdO v137 (
                   again129 ((all_116.set j_117.toNat (gt all_116 (FK (j_117 - 1)))).set (FK (j_117 - 1)).toNat (gt all_116 j_117), FK (j_117 - 1))
                  ) (
                   some (all_116)
                  )
                  )
                  )
                  )
                  )
                  )
                 ) (
                  some (all_116)
                 )
  )) (r.reverse ++ x :: suf, (r.length : Int))) fun o => o = (lE gK x r).reverse ++ suf := by
  intro r
  induction r with
  | nil =>
   intro suf x m hm _ _ _
   obtain ⟨m, rfl⟩ : ∃ k, m = k + 1 := ⟨m - 1, by omega⟩
   rw [kj]
   exact Ok.cd (fun h => by cases h) (fun _ => aw.2 rfl)
  | cons y r ih =>
   intro suf x m hm hr ho hx
   rw [List.length_cons] at hm hr
   obtain ⟨m, rfl⟩ : ∃ k, m = k + 1 := ⟨m - 1, by omega⟩
   have hy := ho y (by simp)
   have hlen : (r.reverse ++ y :: x :: suf).length = r.length + (suf.length + 2) := by simp
   have e0 : (y :: r).reverse ++ x :: suf = r.reverse ++ y :: x :: suf := by simp
   have e1 : gt (r.reverse ++ y :: x :: suf) ((r.length + 1 : Nat) : Int) = x := by
    rw [mW]; simp [List.getD, List.getElem?_append_right]
   have e2 : gt (r.reverse ++ y :: x :: suf) ((r.length : Nat) : Int) = y := by
    rw [mW]; simp [List.getD, List.getElem?_append_right]
   have e3 : (((r.reverse ++ y :: x :: suf).set (r.length + 1) y).set r.length x) = r.reverse ++ x :: y :: suf := by
    rw [List.set_append_right _ _ (by simp), List.set_append_right _ _ (by simp)]
    simp
   rw [kj]
   dsimp only
   rw [List.length_cons, e0, show FK (((r.length + 1 : Nat) : Int) - 1) = ((r.length : Nat) : Int) by rw [wrap64_in (by omega) (by omega)]; omega, e1, e2]
   refine Ok.cd (fun _ => ?_) (fun h => by have := dcF h; omega)
   refine Ok.gd (by rw [bg]; exact decide_eq_true (by omega)) (Ok.bde (AB hx) (Ok.gd (by rw [bg]; exact decide_eq_true (by omega)) (Ok.bde (AB hy) (Ok.bde (DY hx.2 hy.2) ?_))))
   have hi : lE gK x (y :: r) = if kC x < kC y then y :: lE gK x r else x :: y :: r := by
    show (if gK y x = true then y :: lE gK x r else x :: y :: r) = _
    have eg : gK y x = decide (kC x < kC y) := by
     show decide (-kC y < -kC x) = _
     rw [decide_eq_decide]; omega
    rw [eg]
    by_cases h : kC x < kC y
    · rw [if_pos h, if_pos (decide_eq_true h)]
    · rw [if_neg h, if_neg (by simpa using h)]
   rw [hi]
   refine Ok.cd (fun h => ?_) (fun h => aw.2 ?_)
   · have h : kC x < kC y := dcT h
     rw [if_pos h, Int.toNat_natCast, Int.toNat_natCast, e3]
     refine (ih (y :: suf) x m (by omega) (by omega) (fun c hc => ho c (List.mem_cons_of_mem _ hc)) hx).mono fun o e => ?_
     rw [e, List.reverse_cons, List.append_assoc]; rfl
   · have h : ¬ kC x < kC y := dcF h
     rw [if_neg h, List.reverse_cons, List.reverse_cons]; simp
 refine fr (γ := List ae) (len := out.length) (fun c x => (c, x)) (fun i c => c = (gv gK (out.take i).reverse).reverse ++ out.drop i) (by omega) (by omega) (c0 := out) rfl ?_ ?_
 · rintro again i c hi rfl ih
   dsimp only
   refine Ok.cd (fun _ => ?_) (fun h => by have := dcF h; omega)
   have hm : ∀ c ∈ gv gK (out.take i).reverse, okC c := fun c hc => by
    rw [gz, List.mem_reverse] at hc
    exact h c (List.mem_of_mem_take hc)
   have hlen : (gv gK (out.take i).reverse).length = i := by rw [lD, List.length_reverse, List.length_take]; omega
   have := inner (gv gK (out.take i).reverse) (out.drop (i + 1)) out[i] 20000 (by omega) (by omega) hm (h _ (List.getElem_mem hi))
   rw [hlen] at this
   rw [List.drop_eq_getElem_cons hi]
   refine Ok.bd this fun o ho => ih o ?_
   rw [ho, oA hi, List.reverse_append]; rfl
 · rintro again c rfl
   refine Ok.cd (fun h => by have := dcT h; omega) (fun _ => aw.2 ?_)
   rw [List.take_length, List.drop_length, List.append_nil]
end Go.L

