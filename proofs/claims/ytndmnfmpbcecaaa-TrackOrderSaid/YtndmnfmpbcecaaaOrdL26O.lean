import Derived.Test.YtndmnfmpbcecaaaOrdL26S
set_option linter.all false
namespace Go.L
open Go Go.Eng
theorem canon_len {S : Tis} {ts : List Mks} (hvS : ∀ t ∈ S, okT t) (hC : Canon (rel26 S) (marks26 S) ts) : (∀ t ∈ ts, t.length ≤ 64) ∧ ts.length ≤ 2 * S.length := by
 have hq := rel26_eqv S
 have hlen : ∀ t ∈ ts, t.length ≤ 64 := fun t ht => by
  have hr : (t.map fun m => m.Image.toNat).Nodup := by
   refine List.Pairwise.map (R := fun a b => a ∈ t ∧ b ∈ t ∧ kM a < kM b) _ ?_ ?_
   · rintro a b ⟨ha, hb, hab⟩ e
     have oa := marks_ok hvS (hC.val t ht a ha)
     have ob := marks_ok hvS (hC.val t ht b hb)
     have := hq.inj (hC.rel t ht a ha b hb) (by have := oa.1; have := ob.1; omega)
     rw [this] at hab; omega
   · exact (hC.srt t ht).imp_of_mem fun ha hb h => ⟨ha, hb, h⟩
  have := nodup_le hr (b := List.range 64) (fun x hx => by
   obtain ⟨m, hm, rfl⟩ := List.mem_map.1 hx
   have := (marks_ok hvS (hC.val t ht m hm)).1
   exact List.mem_range.2 (by omega))
  simpa using this
 have hts : ts.length ≤ 2 * S.length := by
  have hn : (ts.map hd26).Nodup := by
   refine List.Pairwise.map (R := fun a b => kM (hd26 a) < kM (hd26 b)) _ (fun a b h e => by rw [e] at h; omega) (hC.ord.imp fun h => h.1)
  have hsub : ∀ x ∈ ts.map hd26, x ∈ S.map (·.A) ++ S.map (·.B) := fun x hx => by
   obtain ⟨t, ht, rfl⟩ := List.mem_map.1 hx
   have hne : t ≠ [] := by intro e; have := hC.two t ht; rw [e] at this; simp at this
   obtain ⟨y, hy, h | h⟩ := hC.val t ht _ (hd_mem hne)
   · rw [h]; exact List.mem_append_left _ (List.mem_map.2 ⟨y, hy, rfl⟩)
   · rw [h]; exact List.mem_append_right _ (List.mem_map.2 ⟨y, hy, rfl⟩)
  have gen : ∀ {a b : Mks}, a.Nodup → (∀ x ∈ a, x ∈ b) → a.length ≤ b.length := by
   intro a
   induction a with
   | nil => intro b _ _; exact Nat.zero_le _
   | cons x a ih =>
    intro b h hs
    obtain ⟨h1, h2⟩ := List.nodup_cons.1 h
    have hx := hs x (by simp)
    have := ih (b := b.erase x) h2 fun y hy => by
     have hne : y ≠ x := by rintro rfl; exact h1 hy
     exact (List.mem_erase_of_ne hne).2 (hs y (by simp [hy]))
    rw [List.length_erase_of_mem hx] at this
    have := List.length_pos_of_mem hx
    simp only [List.length_cons]; omega
  have := gen hn hsub
  simp at this; omega
 exact ⟨hlen, hts⟩
end Go.L


set_option linter.all false
namespace Go.L
open Go Go.Eng
theorem u8_of {a : Int} (h : (Lit.int .u8 a).wf = true) : 0 ≤ a ∧ a ≤ 255 := by
 simp [Lit.wf, IntKind.min, IntKind.max, IntKind.signed, IntKind.bits] at h
 exact h
theorem codeT_ok {l : Tis} : codeT l = 0 ↔ l.length ≤ 256 ∧ ∀ t ∈ l, okT t := by
 unfold codeT
 split
 · exact ⟨fun h => (by cases h), fun h => by omega⟩
 · rw [codeL_ok]; exact ⟨fun h => ⟨by omega, h⟩, fun h => h.2⟩
theorem tieEq_v {n : Nat} {s : Tis} (hn : s.length < n) (hl : s.length ≤ 9223372036854775806) : slices_Equal_fiducial_api_Tie_fiducial_api_Tie n s s = some true := by
 unfold slices_Equal_fiducial_api_Tie_fiducial_api_Tie
 rw [show (((s.length : Int) : Int) != (s.length : Int)) = false by simp]
 exact loop_same (f := fun x y => some (eqT x y)) (fun x _ => congrArg some (eqT_iff.2 rfl)) hn hl
theorem strike_v {n m : Nat} {s : Tis} (h : m < s.length) (h2 : s.length ≤ 1000000) : slices_Delete_fiducial_api_Tie_fiducial_api_Tie_w n s (m : Int) (wrapF .i64 ((m : Int) + 1)) = some (s.take m ++ s.drop (m + 1)) := by
 unfold slices_Delete_fiducial_api_Tie_fiducial_api_Tie_w
 rw [wrap64_in (n := (m : Int) + 1) (by omega) (by omega)]
 rw [decide_eq_true (show (0 : Int) ≤ (m : Int) by omega), decide_eq_true (show (m : Int) < (m : Int) + 1 by omega), decide_eq_true (show (m : Int) + 1 ≤ (s.length : Int) by omega)]
 rw [show ((m : Int) + 1).toNat = m + 1 by omega, show ((m : Int)).toNat = m by omega]
 rfl
theorem strike_mem {γ : Type} [Inhabited γ] {s : List γ} {m : Nat} (h : m < s.length) (t : γ) : t ∈ s ↔ t ∈ s.take m ++ s.drop (m + 1) ∨ t = gt s (m : Int) := by
 have e : gt s (m : Int) = s[m] := by rw [gt_nat]; simp [List.getD, List.getElem?_eq_getElem h]
 have e2 : s = s.take m ++ s[m] :: s.drop (m + 1) := by rw [← List.drop_eq_getElem_cons h, List.take_append_drop]
 rw [e]
 conv => lhs; rw [e2]
 simp only [List.mem_append, List.mem_cons]
 constructor
 · rintro (h | h | h)
   · exact .inl (.inl h)
   · exact .inr h
   · exact .inl (.inr h)
 · rintro ((h | h) | h)
   · exact .inl h
   · exact .inr (.inr h)
   · exact .inr (.inl h)
theorem order_v (l : Tis) (order again : List Int) (ho : ∀ a ∈ order, 0 ≤ a ∧ a ≤ 255) (ha : ∀ a ∈ again, 0 ≤ a ∧ a ≤ 255) : fiduciallaw26_TrackOrder 5000 l order again = some true := by
 apply Ok.eq
 unfold fiduciallaw26_TrackOrder
 refine Ok.bde rfl (Ok.cd (fun h => by cases h) (fun _ => ?_))
 refine Ok.cd (fun _ => ok_some.2 rfl) (fun hl => ?_)
 have hl : l.length ≤ 30 := by have := of_decide_eq_false hl; omega
 refine Ok.cd (fun _ => ok_some.2 rfl) (fun hg => ?_)
 have hg : again.length ≤ 30 := by have := of_decide_eq_false hg; omega
 refine Ok.bde (check26_v (by omega)) (Ok.cd (fun _ => ok_some.2 rfl) (fun hc => ?_))
 have hc : codeT l = 0 := by simpa using hc
 obtain ⟨_, hv⟩ := codeT_ok.1 hc
 refine Ok.bde (cloneT_v (by omega)) ?_
 have hmod : ∀ (xs : List Int) (k m : Nat), (∀ a ∈ xs, 0 ≤ a ∧ a ≤ 255) → k < xs.length → 0 < m → ∃ i : Nat, (wrapF .i64 (gt xs (k : Int))).tmod (m : Int) = (i : Int) ∧ i < m := fun xs k m hx hk hm => by
  have hin : gt xs (k : Int) ∈ xs := by rw [gt_nat]; simp only [List.getD, List.getElem?_eq_getElem hk, Option.getD_some]; exact List.getElem_mem hk
  have hb := hx _ hin
  rw [wrap64_in (by omega) (by omega), Int.tmod_eq_emod_of_nonneg hb.1]
  have h1 := Int.emod_nonneg (gt xs (k : Int)) (show (m : Int) ≠ 0 by omega)
  have h2 := Int.emod_lt_of_pos (gt xs (k : Int)) (show (0 : Int) < m by omega)
  exact ⟨((gt xs (k : Int)) % (m : Int)).toNat, by omega, by omega⟩
 refine Ok.bd (R := fun o => o.length = l.length ∧ ∀ t, t ∈ l ↔ t ∈ o) ?_ ?_
 · refine ok_loop (fun x : Tis × Tis × Int => (∀ t, t ∈ l ↔ t ∈ x.1 ∨ t ∈ x.2.1) ∧ x.1.length + x.2.1.length = l.length ∧ x.2.2 = (x.2.1.length : Int)) (fun x => x.1.length) ?_ 5000 (l, [], 0) ⟨fun t => by simp, by simp, rfl⟩ (by show l.length < 5000; omega)
   rintro more ⟨rest, other, k⟩ ⟨h1, h2, h3⟩ ih
   dsimp only at h1 h2 h3
   subst h3
   refine Ok.cd (fun hp => ?_) (fun hp => ?_)
   · have hp : 0 < rest.length := by have := of_decide_eq_true hp; omega
     refine Ok.bd (R := fun i => ∃ m : Nat, i = (m : Int) ∧ m < rest.length) ?_ ?_
     · refine Ok.cd (fun hk => ?_) (fun _ => ok_some.2 ⟨0, rfl, hp⟩)
       have hk : other.length < order.length := by have := of_decide_eq_true hk; omega
       refine Ok.gd (by rw [inR_nat]; exact decide_eq_true hk) (Ok.gd (by rw [decide_eq_false (by omega)]; rfl) (ok_some.2 ?_))
       obtain ⟨i, e, hi⟩ := hmod order other.length rest.length ho hk hp
       exact ⟨i, e, hi⟩
     · rintro i ⟨m, rfl, hm⟩
       refine Ok.gd (by rw [inR_nat]; exact decide_eq_true hm) (Ok.gd (decide_eq_true (by omega)) (Ok.gd (decide_eq_true (by omega)) ?_))
       refine Ok.bde (strike_v hm (by omega)) ?_
       rw [wrap64_in (n := (other.length : Int) + 1) (by omega) (by omega)]
       have hlen : (rest.take m ++ rest.drop (m + 1)).length = rest.length - 1 := by simp; omega
       refine ih _ ⟨fun t => ?_, ?_, ?_⟩ ?_
       · dsimp only
         rw [h1, strike_mem hm, List.mem_append (s := other), List.mem_singleton]
         constructor
         · rintro ((h | h) | h)
           · exact .inl h
           · exact .inr (.inr h)
           · exact .inr (.inl h)
         · rintro (h | h | h)
           · exact .inl (.inl h)
           · exact .inr h
           · exact .inl (.inr h)
       · dsimp only
         rw [hlen, List.length_append, List.length_singleton]; omega
       · dsimp only
         rw [List.length_append, List.length_singleton]; omega
       · dsimp only
         rw [hlen]; omega
   · have hp : rest.length = 0 := by have := of_decide_eq_false hp; omega
     have : rest = [] := List.length_eq_zero_iff.1 hp
     subst this
     exact ok_some.2 ⟨by simpa using h2, fun t => by rw [h1]; simp⟩
 · rintro o ⟨ol, om⟩
   refine Ok.bd (R := fun o => o.length ≤ 60 ∧ ∀ t, t ∈ l ↔ t ∈ o) ?_ ?_
   · refine ok_rangeR (len := again.length) (fun k o => o.length ≤ 30 + k ∧ ∀ t, t ∈ l ↔ t ∈ o) (by omega) (by omega) ⟨by omega, om⟩ ?_ ?_
     · rintro more k o hk ⟨p1, p2⟩ ih
       dsimp only
       refine Ok.cd (fun _ => ?_) (fun h => by have := of_decide_eq_false h; omega)
       refine Ok.gd (by rw [inR_nat]; exact decide_eq_true hk) ?_
       refine Ok.cd (fun hp => ?_) (fun _ => ih _ ⟨by omega, p2⟩)
       have hp : 0 < l.length := by have := of_decide_eq_true hp; omega
       obtain ⟨i, e, hi⟩ := hmod again k l.length ha hk hp
       rw [e]
       refine Ok.gd (by rw [decide_eq_false (by omega)]; rfl) (Ok.gd (by rw [inR_nat]; exact decide_eq_true hi) (Ok.gd (decide_eq_true (by omega)) (Ok.gd (decide_eq_true (by omega)) ?_)))
       refine ih _ ⟨by rw [List.length_append, List.length_singleton]; omega, fun t => ?_⟩
       rw [List.mem_append, List.mem_singleton, ← p2]
       refine ⟨.inl, fun h => h.elim id fun h => ?_⟩
       rw [h, gt_nat]
       simp only [List.getD, List.getElem?_eq_getElem hi, Option.getD_some]
       exact List.getElem_mem hi
     · rintro more o ⟨p1, p2⟩
       exact Ok.cd (fun h => by have := of_decide_eq_true h; omega) (fun _ => ok_some.2 ⟨by omega, p2⟩)
   · rintro o ⟨ol, om⟩
     have hvo : ∀ t ∈ o, okT t := fun t ht => hv t ((om t).2 ht)
     have hco : codeT o = 0 := codeT_ok.2 ⟨by omega, hvo⟩
     have heq : ordT o = ordT l := (ordT_eq hv om).symm
     refine Ok.bd (chain_v (by omega) hc) ?_
     rintro ⟨ts, c1⟩ ⟨e1, hC⟩
     refine Ok.bd (chain_v (by omega) hco) ?_
     rintro ⟨ts', c2⟩ ⟨e2, hC'⟩
     refine Ok.bd (refused_v (by omega) hc) ?_
     rintro ⟨rf, c3⟩ ⟨e3, q1, q2, q3⟩
     refine Ok.bd (refused_v (by omega) hco) ?_
     rintro ⟨rf', c4⟩ ⟨e4, r1, r2, r3⟩
     dsimp only at e1 e2 e3 e4 hC hC' q1 q2 q3 r1 r2 r3 ⊢
     subst e1; subst e2; subst e3; subst e4
     rw [heq] at hC' r2
     have hv2 : ∀ t ∈ ordT l, okT t := fun t ht => hv t (((ordT_ok hv).2.1 t).1 ht)
     have hsl := (ordT_ok hv).2.2
     obtain ⟨len1, len2⟩ := canon_len hv2 hC
     have hsy : ∀ {x y}, rel26 (ordT l) x y → rel26 (ordT l) y x := fun h => (rel26_eqv _).symm h
     have et : ts' = ts := hC'.unique hC (fun _ => Iff.rfl) (fun _ _ _ _ => Iff.rfl) hsy hsy
     have er : rf' = rf := pw_unique r1 q1 fun t => by rw [r2, q2]
     subst et; subst er
     refine Ok.cd (fun _ => ?_) (fun h => by cases h)
     refine Ok.bde (same26_v (by omega) (by omega) (fun t ht => by have := len1 t ht; omega)) (Ok.cd (fun _ => ?_) (fun h => by cases h))
     exact Ok.bde (tieEq_v (by omega) (by omega)) (ok_some.2 rfl)
end Go.L

