import Derived.Test.YtkhmlbchphhokaaGreatShortjehegoga
import Derived.Test.YtkhmlbchphhokaaGreatL0iblbgfpm
import Derived.Test.YtkhmlbchphhokaaGreatSc11nbaanidm
set_option linter.all false
namespace Go.Proofs.YtkhmlbchphhokaaGreat
open Go Go.RowKit Go.Shelf Go.Proofs
attribute [local go_sem] Oper.semAt_some
def smallV (neg : Bool) (zs : List Int) : Int := if (decide ((0 : Int) < zs.length) && neg) = true then wrap64 (IntKind.u64.wrap (-(wordW zs.reverse))) else wrap64 (wordW zs.reverse)
theorem w64 {z : Int} (h : 0 ≤ z) (h2 : z < 18446744073709551616) : IntKind.u64.wrap z = z := by
 simp [IntKind.wrap, IntKind.bits, IntKind.signed]; omega
set_option maxRecDepth 100000 in
set_option maxHeartbeats 4000000 in
theorem small_in (h1 : Fence.wide.fn 86) (h2 : Fence.wide.fn 128) (h3 : Fence.wide.fn 165) (neg : Bool) (sv : Value) (zs : List Int) (hl : zs.length ≤ 2) (hd : ∀ z ∈ zs, 0 ≤ z ∧ z < 1000000000) (w : World)
  (hG : ∀ W, Below w.heap.size w W → CallsIn Fence.wide 3 Tryz.prog 127 #[.agg #[.bool neg, sv]] W fun e W' => (∃ a cap, e = .returned (.slice a zs.length cap) ∧ Nums .u32 W'.heap.size W' (.slice a zs.length cap) zs) ∧ Below W.heap.size W W') :
  CallsIn Fence.wide 4 Tryz.prog 86 #[.agg #[.bool neg, sv]] w fun e W' => e = .returned (.tuple #[.int .i64 (smallV neg zs), .bool true]) ∧ Below w.heap.size w W' := by
 refine callsIn_of_wp_marks Tryz.func86 rfl h1 ?_ rfl
 simp only [Tryz.ntmps86, List.size_toArray, List.length_cons, List.length_nil, Nat.reduceAdd, Nat.reduceSub, Array.replicate_succ, Array.replicate_zero, List.push_toArray, List.append_toArray, List.nil_append, List.cons_append]
 have hB1 : Below w.heap.size w (((w.alloc (.cells #[.bool neg, sv] 72)).alloc (.cells #[.int .i64 0] 3)).alloc (.cells #[.bool false] 4)) := (((Below.refl _ w).alloc (Nat.le_refl _) _).alloc (by simp) _).alloc (by simp; omega) _
 have hval : ∀ k : Nat, 0 ≤ zs[zs.length - 1 - k]?.getD 0 ∧ zs[zs.length - 1 - k]?.getD 0 < 1000000000 := fun k => by
  cases h : zs[zs.length - 1 - k]? with
  | none => simp
  | some z => exact hd z (List.mem_of_getElem? h)
 gi_wp2
 refine ⟨trivial, (hG _ hB1).mono ?_⟩
 rintro e w' ⟨⟨a, cap, rfl, hN⟩, hB2⟩
 have k0 : w'.heap[w.heap.size]? = some (.cells #[.bool neg, sv] 72) := by
  rw [hB2.block w.heap.size (by simp; omega)]
  have e1 := ((Below.refl (w.heap.size + 1) (w.alloc (.cells #[.bool neg, sv] 72))).alloc (by simp) (.cells #[.int .i64 0] 3)).alloc (by simp) (.cells #[.bool false] 4)
  rw [e1.block _ (Nat.lt_succ_self _)]; exact World.alloc_heap_new w _
 have k1 : Boxed w' (w.heap.size + 1) 3 (.int .i64 0) := by
  have e1 := (Boxed.new (w.alloc (.cells #[.bool neg, sv] 72)) 3 (.int .i64 0)).alloc (.cells #[.bool false] 4)
  rw [World.size_alloc] at e1
  exact (hB2.block (w.heap.size + 1) (by simp)).trans e1
 have k2 : Boxed w' (w.heap.size + 1 + 1) 4 (.bool false) := by
  have e1 := Boxed.new ((w.alloc (.cells #[.bool neg, sv] 72)).alloc (.cells #[.int .i64 0] 3)) 4 (.bool false)
  simp only [World.size_alloc] at e1
  exact (hB2.block (w.heap.size + 1 + 1) (by simp)).trans e1
 have hsz : w.heap.size + 1 + 1 + 1 ≤ w'.heap.size := by have := hB2.size; simpa using this
 have hBw : Below w.heap.size w w' := hB1.trans (hB2.mono (by simp; omega))
 gi_wp2_with (gi_at_call 128; refine (back_in Fence.wide 3 h2 rfl _ _ _ _).mono ?_; rintro e w'' ⟨rfl, rfl⟩)
 have bS := Boxed.new w' 155 (.int .u64 0)
 have bN := Boxed.new (w'.alloc (.cells #[.int .u64 0] 155)) 70 (.slice a zs.length cap)
 rw [World.size_alloc] at bN
 have hB0 : Below w'.heap.size w' ((w'.alloc (.cells #[.int .u64 0] 155)).alloc (.cells #[.slice a zs.length cap] 70)) := ((Below.refl _ w').alloc (Nat.le_refl _) _).alloc (by simp) _
 refine wpIn_rangeFunc_ownF rfl (by omega) (gf := 165) (lb := #[.pointer (some ⟨w'.heap.size + 1, 0, none⟩)]) rfl h3 (enters_of Tryz.func165 (by kernel_rfl) rfl)
  (back_stops Fence.wide 3 h3 rfl (by omega) (w'.heap.size + 1) w'.heap.size _ zs (by omega) (fun j => Fin.ofNat (zs.length - 1 + 1) j) (fun x : Fin (zs.length - 1 + 1) => #[Value.int .i64 ((zs.length - 1 - x.1 : Nat) : Int), Value.int .u32 (zs[zs.length - 1 - x.1]?.getD 0)])
   (fun j hj => by simp only [Fin.ofNat]; rw [Nat.mod_eq_of_lt (by omega)]) _ (by simp) (by simp; omega) bN.cell (hN.below hB0)) KB.trans (KB.putObj (by simp; omega) (by simp)) (Below.refl _ _) (fun _ => rfl)
  (fun pre W => (W.cell? ⟨w'.heap.size, 0, none⟩ = some (.int .u64 (wordW (pre.map (fun x => zs[zs.length - 1 - x.1]?.getD 0)))) ∧ W.frozen? ⟨w'.heap.size, 0, none⟩ = false) ∧ Below w'.heap.size w' W)
  (fun _ _ _ => False)
  (OwnFrom.and (Own.from (fun s A B row hs hg hr => ⟨cell_kept hs.1 hg hr, (frozen_kept hs.1 hg hr).trans hs.2⟩) _) (ownFrom_below (Nat.le_refl _) (by simp; omega)))
  (fun _ _ _ _ _ hs _ _ => hs)
  ⟨⟨(bS.alloc _).cell, (bS.alloc _).frozen⟩, hB0⟩
  (fun x => { tmps := #[.agg #[.bool neg, sv], .pointer (some ⟨w.heap.size, 0, none⟩), .pointer (some ⟨w.heap.size + 1, 0, none⟩), .pointer (some ⟨w.heap.size + 1 + 1, 0, none⟩), .slice a zs.length cap, .pointer (some ⟨w'.heap.size, 0, none⟩), undef, .int .u32 (zs[zs.length - 1 - x.1]?.getD 0), .agg #[.bool neg, sv], .slice a zs.length cap, .slice a zs.length cap, .int .i64 zs.length, .bool (decide ((3 : Int) < zs.length)), .slice a zs.length cap, .func (.func 165) #[] #[.pointer (some ⟨w'.heap.size + 1, 0, none⟩)], .int .i64 ((zs.length - 1 - x.1 : Nat) : Int), .int .u32 (zs[zs.length - 1 - x.1]?.getD 0), undef, undef, undef, undef, undef, undef, undef, undef, undef, undef, undef, undef, undef, undef, undef, undef, undef, undef, undef, undef, undef, undef, undef, undef, undef, undef, undef], defers := [] }) ?assign ?body ?done ?stop
 case assign =>
  intro l x W K hK
  gi_wp2
  exact hK
 case stop =>
  rintro D c pre W _ _ h _
  exact h.elim
 case body =>
  rintro l pre x W ⟨⟨hc, hf⟩, hB⟩ hpl
  have hv := hval x.1
  have hnb : 0 ≤ wordW (pre.map (fun x => zs[zs.length - 1 - x.1]?.getD 0)) ∧ wordW (pre.map (fun x => zs[zs.length - 1 - x.1]?.getD 0)) < 1000000000 := by
   rcases pre with _ | ⟨y, _ | ⟨z, l⟩⟩
   · simp [wordW]
   · have := hval y.1
     have e : wordW [zs[zs.length - 1 - y.1]?.getD 0] = zs[zs.length - 1 - y.1]?.getD 0 := by
      simp only [wordW, List.foldl, Int.zero_mul]
      have e1 : IntKind.u64.wrap (0 : Int) = 0 := by decide
      rw [e1, w64 this.1 (by omega), Int.zero_add, w64 this.1 (by omega)]
     simp only [List.map_cons, List.map_nil]
     rw [e]; exact this
   · simp at hpl; omega
  have hno : decide (wordW (pre.map (fun x => zs[zs.length - 1 - x.1]?.getD 0)) > (IntKind.u64.wrap (9223372036854775808 - IntKind.u64.wrap (zs[zs.length - 1 - x.1]?.getD 0))).tdiv 1000000000) = false := by
   rw [w64 hv.1 (by omega), w64 (by omega) (by omega), Int.tdiv_eq_ediv_of_nonneg (by omega)]
   simp; omega
  have e1 := w64 (z := wordW (pre.map (fun x => zs[zs.length - 1 - x.1]?.getD 0)) * 1000000000) (by omega) (by omega)
  have e2 := w64 hv.1 (by omega)
  have e3 := w64 (z := wordW (pre.map (fun x => zs[zs.length - 1 - x.1]?.getD 0)) * 1000000000 + zs[zs.length - 1 - x.1]?.getD 0) (by omega) (by omega)
  gi_wp2
  exact ⟨KeepsOthers.setCell _ _ _, ⟨(Below.refl w'.heap.size W).setCell (p := ⟨w'.heap.size, 0, none⟩) (Nat.le_refl _) _, World.cell?_setCell_other _ _ _ _ (by simp)⟩, ⟨by rw [List.map_append, List.map_cons, List.map_nil, wordW_snoc, e1, e2, e3]; exact World.cell?_setCell_same' _ _ _ (by rw [hc]; rfl), by rw [World.frozen?_setCell]; exact hf⟩, hB.setCell (p := ⟨w'.heap.size, 0, none⟩) (Nat.le_refl _) _⟩
 case done =>
  rintro D ys W hD rfl ⟨⟨hc, _⟩, hB⟩ hK
  have eR : (upto (fun j => Fin.ofNat (zs.length - 1 + 1) j) zs.length).map (fun x : Fin (zs.length - 1 + 1) => zs[zs.length - 1 - x.1]?.getD 0) = zs.reverse := by
   apply List.ext_getElem
   · simp [upto]
   · intro i h1 h2
     have hi : i < zs.length := by simpa using h2
     simp only [upto, List.map_map, List.getElem_map, List.getElem_range, Function.comp, Fin.ofNat, List.getElem_reverse]
     rw [Nat.mod_eq_of_lt (by omega), List.getElem?_eq_getElem (by omega)]; rfl
  rw [eR] at hc
  have hD' : w'.heap.size ≤ D := by simp at hD; omega
  have c0 : W.cell? ⟨w.heap.size, 0, none⟩ = some (.bool neg) := by
   simp only [World.cell?, hB.block w.heap.size (by omega), k0]; rfl
  have c1 : W.cell? ⟨w.heap.size + 1, 0, none⟩ = some (.int .i64 0) := (hB.cell (p := ⟨w.heap.size + 1, 0, none⟩) (by simp; omega)).trans k1.cell
  have c2 : W.cell? ⟨w.heap.size + 1 + 1, 0, none⟩ = some (.bool false) := (hB.cell (p := ⟨w.heap.size + 1 + 1, 0, none⟩) (by simp; omega)).trans k2.cell
  have f1 : W.frozen? ⟨w.heap.size + 1, 0, none⟩ = false := (hB.frozen (p := ⟨w.heap.size + 1, 0, none⟩) (by simp; omega)).trans k1.frozen
  have f2 : W.frozen? ⟨w.heap.size + 1 + 1, 0, none⟩ = false := (hB.frozen (p := ⟨w.heap.size + 1 + 1, 0, none⟩) (by simp; omega)).trans k2.frozen
  have hlt : wordW zs.reverse < 1000000000000000000 := by
   rcases zs with _ | ⟨y, _ | ⟨z, _ | ⟨u, l⟩⟩⟩
   · simp [wordW]
   · have h1 := hd y (by simp)
     simp only [wordW, List.reverse_cons, List.reverse_nil, List.nil_append, List.foldl, Int.zero_mul]
     rw [w64 (z := 0) (by omega) (by omega), w64 h1.1 (by omega), w64 (by omega) (by omega)]; omega
   · have h1 := hd y (by simp); have h2 := hd z (by simp)
     simp only [wordW, List.reverse_cons, List.reverse_nil, List.nil_append, List.cons_append, List.foldl, Int.zero_mul]
     rw [w64 (z := 0) (by omega) (by omega), w64 h1.1 (by omega), w64 h2.1 (by omega), w64 (z := 0 + z) (by omega) (by omega), w64 (z := (0 + z) * 1000000000) (by omega) (by omega), w64 (by omega) (by omega)]; omega
   · simp at hl
  have hne : (wordW zs.reverse == 9223372036854775808) = false := by simp; omega
  have fin : ∀ z : Int, ∃ W2, W2 = (W.setCell ⟨w.heap.size + 1, 0, none⟩ (.int .i64 z)).setCell ⟨w.heap.size + 1 + 1, 0, none⟩ (.bool true) ∧ W2.heap[D]? = some (.deferred (some [])) ∧ (W2.putObj D (.deferred none)).cell? ⟨w.heap.size + 1, 0, none⟩ = some (.int .i64 z) ∧ (W2.putObj D (.deferred none)).cell? ⟨w.heap.size + 1 + 1, 0, none⟩ = some (.bool true) ∧ Below w.heap.size w (W2.putObj D (.deferred none)) := by
   intro z
   have g1 := (KeepsOthers.setCell W ⟨w.heap.size + 1, 0, none⟩ (.int .i64 z)).same D _ hK rfl
   have g2 := (KeepsOthers.setCell (W.setCell ⟨w.heap.size + 1, 0, none⟩ (.int .i64 z)) ⟨w.heap.size + 1 + 1, 0, none⟩ (.bool true)).same D _ g1 rfl
   have a1 : (W.setCell ⟨w.heap.size + 1, 0, none⟩ (.int .i64 z)).cell? ⟨w.heap.size + 1, 0, none⟩ = some (.int .i64 z) := World.cell?_setCell_same' _ _ _ (by rw [c1]; rfl)
   have a2 : ((W.setCell ⟨w.heap.size + 1, 0, none⟩ (.int .i64 z)).setCell ⟨w.heap.size + 1 + 1, 0, none⟩ (.bool true)).cell? ⟨w.heap.size + 1, 0, none⟩ = some (.int .i64 z) := (World.cell?_setCell_other _ _ _ _ (by simp)).trans a1
   have a3 : (W.setCell ⟨w.heap.size + 1, 0, none⟩ (.int .i64 z)).cell? ⟨w.heap.size + 1 + 1, 0, none⟩ = some (.bool false) := (World.cell?_setCell_other _ _ _ _ (by simp)).trans c2
   have a4 : ((W.setCell ⟨w.heap.size + 1, 0, none⟩ (.int .i64 z)).setCell ⟨w.heap.size + 1 + 1, 0, none⟩ (.bool true)).cell? ⟨w.heap.size + 1 + 1, 0, none⟩ = some (.bool true) := World.cell?_setCell_same' _ _ _ (by rw [a3]; rfl)
   refine ⟨_, rfl, g2, cell_kept a2 (grownBy_putObj' _ D (.deferred none)) (fun r e => by cases e; exact ⟨_, g2, rfl⟩), cell_kept a4 (grownBy_putObj' _ D (.deferred none)) (fun r e => by cases e; exact ⟨_, g2, rfl⟩), ?_⟩
   have b1 : Below w.heap.size w W := hBw.trans (hB.mono (by omega))
   have b2 := (b1.setCell (p := ⟨w.heap.size + 1, 0, none⟩) (by simp) (.int .i64 z)).setCell (p := ⟨w.heap.size + 1 + 1, 0, none⟩) (by simp; omega) (.bool true)
   exact b2.trans (belowK_b (w := w) (Nat.le_refl _) _ D _ _ (by omega) g2 rfl rfl)
  by_cases hz : (0 : Int) < zs.length
  · have hz' : decide ((0 : Int) < zs.length) = true := by simpa using hz
    cases neg
    · gi_wp2
      obtain ⟨W2, e2, q1, q2, q3, q4⟩ := fin (wrap64 (wordW zs.reverse))
      rw [← e2]
      refine ⟨by simp, .inl ⟨_, _, rfl, run_takeDeferred q1, ?_⟩⟩
      refine ⟨.tuple #[.int .i64 (smallV false zs), .bool true], ?_, rfl, q4⟩
      have ev : smallV false zs = wrap64 (wordW zs.reverse) := by simp [smallV]
      rw [ev]
      simp [results, Tryz.f86, go_sem, q2, q3]
    · gi_wp2
      obtain ⟨W2, e2, q1, q2, q3, q4⟩ := fin (wrap64 (IntKind.u64.wrap (-wordW zs.reverse)))
      rw [← e2]
      refine ⟨by simp, .inl ⟨_, _, rfl, run_takeDeferred q1, ?_⟩⟩
      refine ⟨.tuple #[.int .i64 (smallV true zs), .bool true], ?_, rfl, q4⟩
      have ev : smallV true zs = wrap64 (IntKind.u64.wrap (-wordW zs.reverse)) := by unfold smallV; rw [hz']; rfl
      rw [ev]
      simp [results, Tryz.f86, go_sem, q2, q3]
  · have hz' : decide ((0 : Int) < zs.length) = false := by simpa using hz
    gi_wp2
    obtain ⟨W2, e2, q1, q2, q3, q4⟩ := fin (wrap64 (wordW zs.reverse))
    rw [← e2]
    refine ⟨by simp, .inl ⟨_, _, rfl, run_takeDeferred q1, ?_⟩⟩
    refine ⟨.tuple #[.int .i64 (smallV neg zs), .bool true], ?_, rfl, q4⟩
    have ev : smallV neg zs = wrap64 (wordW zs.reverse) := by unfold smallV; rw [hz']; rfl
    rw [ev]
    simp [results, Tryz.f86, go_sem, q2, q3]
open Go.Eng in
theorem smallE_eq (neg : Bool) (zs : List Int) : Go.L.smallE neg zs = smallV neg zs := by
 unfold Go.L.smallE smallV wordW
 simp only [wrapF_eq]
 have e : ∀ z : Int, IntKind.i64.wrap z = wrap64 z := fun z => by simp [IntKind.wrap, IntKind.bits, IntKind.signed, wrap64]; omega
 simp only [e]
open Go.Eng in
theorem small_fn {neg : Bool} {gs zs : List Int} (hg : FnOk Tryz.prog 127 [.agg [.at (.bool neg), slT (iC .u32) gs]] (slT (iC .u32) zs)) (hl : decide (zs.length ≤ 2) = true) (hd : Go.L.digB zs = true) :
  FnOk Tryz.prog 86 [.agg [.at (.bool neg), slT (iC .u32) gs]] (.tup [.at (.int .i64 (Go.L.smallE neg zs)), .at (.bool true)]) := by
 have hl' : zs.length ≤ 2 := by simpa using hl
 have hd' : ∀ z ∈ zs, 0 ≤ z ∧ z < 1000000000 := fun z hz => by
  have := List.all_eq_true.1 hd z hz
  simpa using this
 intro out w vs hout ha
 have ha0 := ha
 obtain ⟨v, vs', rfl, hv, rfl⟩ := ha
 obtain ⟨us, rfl, hu⟩ := hv
 obtain ⟨us⟩ := us
 obtain ⟨u1, us', e1, h1, hu⟩ := hu
 obtain ⟨u2, us'', rfl, h2, rfl⟩ := hu
 simp only at e1
 subst e1
 obtain rfl : u1 = .bool neg := h1
 rw [smallE_eq]
 have := callsIn_wide.1 (small_in trivial trivial trivial neg u2 zs hl' hd' w fun W hBW => callsIn_wide.2 ((hg out W _ (fun b hb => Nat.lt_of_lt_of_le (hout b hb) hBW.size) (RvL.ext (below_ext (out := out) hBW) _ _ ha0)).mono fun e W' hr => by
  obtain ⟨u, rfl, hE, hu⟩ := hr
  obtain ⟨_, a, cap, rfl, hN⟩ := slInts_nums (Go.L.slInts_at (by simp; omega)) hu
  exact ⟨⟨a, cap, rfl, hN⟩, ⟨hE.os, hE.tape, hE.output, hE.size, hE.low⟩⟩))
 refine this.mono ?_
 rintro e w' ⟨rfl, hB⟩
 exact ⟨_, rfl, below_ext hB, _, rfl, _, _, rfl, rfl, _, _, rfl, rfl, rfl⟩
end Go.Proofs.YtkhmlbchphhokaaGreat
