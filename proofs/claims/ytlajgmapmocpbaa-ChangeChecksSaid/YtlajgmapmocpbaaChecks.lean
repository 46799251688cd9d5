/- What the functions of terrain and change compute that the law ChangeChecks reaches. -/
import Derived.Test.YtlajgmapmocpbaaEng18
import Derived.Test.YtlajgmapmocpbaaTypes
import Derived.Test.YtlajgmapmocpbaaExt
set_option linter.unusedSimpArgs false
set_option linter.unusedVariables false
namespace Go.Proofs.Ytlajgmapmocpbaa
open Go Go.RowKit Go.Proofs Go.Eng

def far (z : Int) : Bool := decide (z < -1048576) || decide (z > 1048576)
noncomputable def farF : List AV → Option AV := mkF (fun z : Int => [.at (.int .i64 z)]) (fun z => .at (.bool (far z)))
@[go_sem] theorem farF_at (z : Int) : farF [.at (.int .i64 z)] = some (.at (.bool (far z))) := mkF_at (enc := fun z : Int => [.at (.int .i64 z)]) (by intro a b h; simp at h; rw [h]) z
theorem far_ok : ExtOk Try.prog 32 farF := by
  refine ext_of_body (inl := fun _ => false) noNG follows X0_ok Try.func32 fun args r h => ?_
  obtain ⟨z, rfl, rfl⟩ := mkF_inv h
  refine ⟨50, runPure_EV rfl rfl Try.ntmps32 rfl ?_⟩
  simp only [go_sem, Nat.reduceAdd, Nat.reduceSub]
  refine EVG_cases (fun hb => ?_) (fun hb => ?_) <;> simp only [hb, go_sem, Nat.reduceAdd, Nat.reduceSub]
  all_goals (simp_all [far] <;> omega)

noncomputable def sideF : List AV → Option AV := mkF (fun z : Int => [.at (.int .i64 z)]) (fun z => .at (.bool (decide (2 ≤ z) && decide (z ≤ 64))))
@[go_sem] theorem sideF_at (z : Int) : sideF [.at (.int .i64 z)] = some (.at (.bool (decide (2 ≤ z) && decide (z ≤ 64)))) := mkF_at (enc := fun z : Int => [.at (.int .i64 z)]) (by intro a b h; simp at h; rw [h]) z
theorem side_ok : ExtOk Try.prog 31 sideF := by
  refine ext_of_body (inl := fun _ => false) noNG follows X0_ok Try.func31 fun args r h => ?_
  obtain ⟨z, rfl, rfl⟩ := mkF_inv h
  refine ⟨50, runPure_EV rfl rfl Try.ntmps31 rfl ?_⟩
  simp only [go_sem, Nat.reduceAdd, Nat.reduceSub]
  refine EVG_cases (fun hb => ?_) (fun hb => ?_) <;> simp only [hb, go_sem, Nat.reduceAdd, Nat.reduceSub]
  all_goals simp_all

def badH (z : Int) : Bool := decide (z ≠ -2147483648) && far z
noncomputable def badF : List AV → Option AV := mkF (fun z : Int => [.at (.int .i64 z)]) (fun z => .at (.bool (badH z)))
@[go_sem] theorem badF_at (z : Int) : badF [.at (.int .i64 z)] = some (.at (.bool (badH z))) := mkF_at (enc := fun z : Int => [.at (.int .i64 z)]) (by intro a b h; simp at h; rw [h]) z
theorem bad_ok : ExtOk Try.prog 33 badF := by
  refine ext_of_body (inl := fun _ => false) noNG follows (addX_ok far_ok X0_ok) Try.func33 fun args r h => ?_
  obtain ⟨z, rfl, rfl⟩ := mkF_inv h
  refine ⟨50, runPure_EV rfl rfl Try.ntmps33 rfl ?_⟩
  simp only [go_sem, Nat.reduceAdd, Nat.reduceSub]
  refine EVG_cases (fun hb => ?_) (fun hb => ?_) <;> simp only [hb, go_sem, Nat.reduceAdd, Nat.reduceSub]
  all_goals simp_all [badH]

def iv (n : Int) : AV := .at (.int .i64 n)
/-- The place of the first one, or -1. -/
def idxOf (p : Int → Bool) (zs : List Int) : Int := match zs.findIdx? p with | some k => (k : Int) | none => -1

theorem idxOf_at {p : Int → Bool} {zs : List Int} {k : Nat} (hk : k < zs.length) (h1 : ∀ j, j < k → p (zs[j]?.getD 0) = false) (h2 : p (zs[k]?.getD 0) = true) : idxOf p zs = k := by
  have : zs.findIdx? p = some k := by
    rw [List.findIdx?_eq_some_iff_getElem]
    refine ⟨hk, by simpa [hk] using h2, fun j hj => ?_⟩
    have := h1 j hj
    rw [List.getElem?_eq_getElem (by omega)] at this
    simpa using this
  simp [idxOf, this]
theorem idxOf_none {p : Int → Bool} {zs : List Int} (h1 : ∀ j, j < zs.length → p (zs[j]?.getD 0) = false) : idxOf p zs = -1 := by
  have : zs.findIdx? p = none := by
    rw [List.findIdx?_eq_none_iff]
    intro x hx
    obtain ⟨j, hj, rfl⟩ := List.getElem_of_mem hx
    have := h1 j hj
    rw [List.getElem?_eq_getElem hj] at this
    simpa using this
  simp [idxOf, this]
theorem wrap_nat {n : Int} (h : 0 ≤ n) (h2 : n ≤ 9223372036854775807) : wrapF .i64 n = n := by
  unfold wrapF inKind
  have : (decide (-9223372036854775808 ≤ n) && decide (n ≤ 9223372036854775807)) = true := by simp; omega
  simp only [this]

noncomputable def ixF (g : Nat) (p : Int → Bool) : List AV → Option AV := mkF (fun zs : { l : List Int // l.length ≤ 9223372036854775807 } => [.sl true (zs.1.map iv) zs.1.length, .fn g [] []]) (fun zs => iv (idxOf p zs.1))
theorem iv_inj {a b : List Int} (h : a.map iv = b.map iv) : a = b := by
  have hi : Function.Injective iv := by intro x y h; unfold iv at h; injection h with h; injection h
  exact (List.map_inj_right (fun x y h => hi h)).1 h
theorem ixF_at {g : Nat} {p : Int → Bool} {zs : List Int} (h : zs.length ≤ 9223372036854775807) : ixF g p [.sl true (zs.map iv) zs.length, .fn g [] []] = some (iv (idxOf p zs)) :=
  mkF_at (enc := fun zs : { l : List Int // l.length ≤ 9223372036854775807 } => [AV.sl true (zs.1.map iv) zs.1.length, .fn g [] []]) (by
    intro a b h
    injection h with h _; injection h with _ h _
    rw [iv_inj h]) ⟨zs, h⟩

theorem index_ok {g : Nat} {p : Int → Bool} {X : FuncId → Option (List AV → Option AV)} (hX : ∀ f F, X f = some F → ExtOk Try.prog f F) {G : List AV → Option AV} (hg : callable Try.prog g = true) (hG : X g = some G) (hp : ∀ z, G [.at (.int .i64 z)] = some (.at (.bool (p z)))) :
    ExtOk Try.prog 34 (ixF g p) := by
  refine ext_of_body (inl := fun _ => false) noNG follows hX Try.func34 fun args r h => ?_
  obtain ⟨⟨zs, hz⟩, rfl, rfl⟩ := mkF_inv h
  refine ⟨zs.length + 50, runPure_EV rfl rfl Try.ntmps34 rfl ?_⟩
  simp only [go_sem, Nat.reduceAdd, Nat.reduceSub]
  refine EV_loop (fun m s h => h = [] ∧ ∃ (k : Nat) (u5 u9 u10 u11 u12 u13 u14 u15 u16 u17 u18 : AV), m + k = zs.length ∧ (∀ j, j < k → p (zs[j]?.getD 0) = false) ∧
    s = [.sl true (zs.map iv) zs.length, .fn g [] [], .unk, .unk, .at (.int .i64 0), u5, .sl true (zs.map iv) zs.length, .at (.int .i64 zs.length), .at (.int .i64 k), u9, u10, u11, u12, u13, u14, u15, u16, u17, u18]) zs.length (by omega)
    ⟨rfl, 0, .unk, .unk, .unk, .unk, .unk, .unk, .unk, .unk, .unk, .unk, .unk, by simp, by simp, rfl⟩ ?_
  rintro m s h ⟨rfl, k, u5, u9, u10, u11, u12, u13, u14, u15, u16, u17, u18, hk, hpre, rfl⟩
  simp only [go_sem, Nat.reduceAdd, Nat.reduceSub]
  refine EVC_cases (fun hb => ?_) (fun hb => ?_)
  · have hlt : k < zs.length := by simpa using hb
    have h0 : decide ((0 : Int) ≤ (k : Int)) = true := by simp
    have hc : (zs.map iv)[k]? = some (.at (.int .i64 (zs[k]?.getD 0))) := by simp [hlt, iv]
    have hw : wrapF .i64 ((k : Int) + 1) = ((k + 1 : Nat) : Int) := by rw [wrap_nat (by omega) (by omega)]; omega
    simp only [hb, h0, hc, hg, hG, hp, hw, go_sem, Nat.reduceAdd, Nat.reduceSub, Bool.and_true, Int.toNat_natCast, Nat.mul_one]
    refine EVC_cases (fun hb2 => ?_) (fun hb2 => ?_)
    · simp only [hb2, go_sem, Nat.reduceAdd, Nat.reduceSub]
      rw [idxOf_at hlt hpre hb2]; rfl
    · simp only [hb2, hw, go_sem, Nat.reduceAdd, Nat.reduceSub]
      refine ⟨m - 1, by omega, trivial, k + 1, _, _, _, _, _, _, _, _, _, _, _, by omega, fun j hj => ?_, rfl⟩
      by_cases hjk : j < k
      · exact hpre j hjk
      · rw [show j = k by omega]; exact hb2
  · have hge : ¬ k < zs.length := by simpa using hb
    simp only [hb, go_sem, Nat.reduceAdd, Nat.reduceSub]
    rw [idxOf_none fun j hj => hpre j (by omega)]; rfl

noncomputable def ctF (g : Nat) (p : Int → Bool) : List AV → Option AV := mkF (fun zs : { l : List Int // l.length ≤ 9223372036854775807 } => [.sl true (zs.1.map iv) zs.1.length, .fn g [] []]) (fun zs => .at (.bool (decide (idxOf p zs.1 ≥ 0))))
theorem ctF_at {g : Nat} {p : Int → Bool} {zs : List Int} (h : zs.length ≤ 9223372036854775807) : ctF g p [.sl true (zs.map iv) zs.length, .fn g [] []] = some (.at (.bool (decide (idxOf p zs ≥ 0)))) :=
  mkF_at (enc := fun zs : { l : List Int // l.length ≤ 9223372036854775807 } => [AV.sl true (zs.1.map iv) zs.1.length, .fn g [] []]) (by
    intro a b h
    injection h with h _; injection h with _ h _
    rw [iv_inj h]) ⟨zs, h⟩
theorem contains_ok {g : Nat} {p : Int → Bool} {X : FuncId → Option (List AV → Option AV)} (hX : ∀ f F, X f = some F → ExtOk Try.prog f F) (hI : X 34 = some (ixF g p)) :
    ExtOk Try.prog 21 (ctF g p) := by
  refine ext_of_body (inl := fun _ => false) noNG follows hX Try.func21 fun args r h => ?_
  obtain ⟨⟨zs, hz⟩, rfl, rfl⟩ := mkF_inv h
  refine ⟨50, runPure_EV rfl rfl Try.ntmps21 rfl ?_⟩
  simp only [go_sem, hI, ixF_at hz, iv, Nat.reduceAdd, Nat.reduceSub]

structure Grd where
  x0 : Int
  y0 : Int
  step : Int
  w : Int
  h : Int
  z : List Int
  hz : z.length ≤ 9223372036854775807
def Grd.cells (g : Grd) : List AV := [iv g.x0, iv g.y0, iv g.step, iv g.w, iv g.h, .sl true (g.z.map iv) g.z.length]
def gridBad (g : Grd) : Bool := !(decide (2 ≤ g.w) && decide (g.w ≤ 64)) || !(decide (2 ≤ g.h) && decide (g.h ≤ 64)) || decide (g.step < 2) || decide (g.step > 65536) || g.step.tmod 2 != 0 || far g.x0 || far g.y0
def chk (g : Grd) : Int := if gridBad g then 2 else if (g.z.length : Int) != wrapF .i64 (g.w * g.h) then 4 else if idxOf badH g.z ≥ 0 then 2 else 0
noncomputable def chkF : List AV → Option AV := mkF (fun g : Grd => [.agg g.cells]) (fun g => iv (chk g))

noncomputable def XC : FuncId → Option (List AV → Option AV) := addX 21 (ctF 33 badH) (addX 34 (ixF 33 badH) (addX 33 badF (addX 31 sideF (addX 32 farF X0))))
theorem XC_ok : ∀ f F, XC f = some F → ExtOk Try.prog f F := by
  have h1 := addX_ok bad_ok (addX_ok side_ok (addX_ok far_ok X0_ok))
  have h2 := addX_ok (index_ok (g := 33) (p := badH) h1 cb33 rfl badF_at) h1
  exact addX_ok (contains_ok h2 rfl) h2

theorem terrain_ok : ExtOk Try.prog 20 chkF := by
  refine ext_of_body (inl := fun _ => false) noNG follows XC_ok Try.func20 fun args r h => ?_
  obtain ⟨⟨x0, y0, step, w, ht, z, hz⟩, rfl, rfl⟩ := mkF_inv h
  clear h
  refine ⟨50, runPure_EV rfl rfl Try.ntmps20 rfl ?_⟩
  have q1 : XC 31 = some sideF := rfl
  have q2 : XC 32 = some farF := rfl
  have q3 : XC 21 = some (ctF 33 badH) := rfl
  simp only [go_sem, Grd.cells, q1, q2, q3, iv, Nat.reduceAdd, Nat.reduceSub, Nat.reduceLT]
  have d20 : decide ((2 : Int) = 0) = false := rfl
  have fin2 : gridBad ⟨x0, y0, step, w, ht, z, hz⟩ = true → chk ⟨x0, y0, step, w, ht, z, hz⟩ = 2 := fun hg => by simp [chk, hg]
  repeat
    refine EVG_cases (fun hb => ?_) (fun hb => ?_)
    · simp only [hb, d20, go_sem, q1, q2, q3, sideF_at, farF_at, Nat.reduceAdd, Nat.reduceSub, Nat.reduceLT]
      rw [fin2 (by clear fin2 q1 q2 q3 d20; simp_all [gridBad])]
    simp only [hb, d20, go_sem, q1, q2, q3, sideF_at, farF_at, Nat.reduceAdd, Nat.reduceSub, Nat.reduceLT]
  refine EVC_cases (fun hb => ?_) (fun hb => ?_)
  · simp only [hb, go_sem, Nat.reduceAdd, Nat.reduceSub]
    rw [fin2 (by clear fin2 q1 q2 q3 d20; simp_all [gridBad])]
  simp only [hb, d20, go_sem, Nat.reduceAdd, Nat.reduceSub, Nat.reduceLT]
  have hbad : gridBad ⟨x0, y0, step, w, ht, z, hz⟩ = false := by clear fin2 q1 q2 q3 d20; simp_all [gridBad]
  refine EVC_cases (fun hl => ?_) (fun hl => ?_)
  · simp only [hl, go_sem, Nat.reduceAdd, Nat.reduceSub]
    simp [chk, hbad, hl]
  simp only [hl, go_sem, q3, ctF_at hz, Nat.reduceAdd, Nat.reduceSub, Nat.reduceLT]
  refine EVC_cases (fun hi => ?_) (fun hi => ?_)
  · simp only [hi, go_sem, Nat.reduceAdd, Nat.reduceSub]
    simp_all [chk]
  · simp only [hi, go_sem, Nat.reduceAdd, Nat.reduceSub]
    simp_all [chk]
end Go.Proofs.Ytlajgmapmocpbaa
