import Derived.Test.YtndahnebnggdmaaGreatConL55z
import Derived.Test.YtndahnebnggdmaaGreatConL55e
import Derived.Test.YtndahnebnggdmaaGreatConL55e
set_option linter.all false
namespace Go.L
open Go Go.Eng
theorem has_v {f : Nat} {s : List Int} (m : Int) (hl : s.length < f) (h2 : s.length ≤ 9223372036854775806) : slices_ContainsFunc_int_int_of_plan_Control_1_1 f s m = some (s.any fun x => bitO .and .i64 x m == 0) := by
 unfold slices_ContainsFunc_int_int_of_plan_Control_1_1
 have := loop_indexF (n := f) (s := s) (f := fun x => plan_Control_1_1 f x m) (p := fun x => bitO .and .i64 x m == 0) (fun _ => rfl) hl h2
 rw [show slices_IndexFunc_int_int_of_plan_Control_1_1 f s m = some (idxB (fun x => bitO .and .i64 x m == 0) s) from this]
 show some _ = some _
 rw [idxB_ge]
def seeB (F zx zy : Int) (c p : api_Pix) : Bool := decide (2 * ((c.X - p.X).natAbs : Int) * F ≤ zx) && decide (2 * ((c.Y - p.Y).natAbs : Int) * F ≤ zy)
def srv (F zx zy : Int) (l P : List api_Pix) (L : List Nat) : Bool := P.all fun p => L.any fun k => seeB F zx zy (l.getD k default) p
def seesL (F zx zy : Int) (l : List api_Pix) (p : api_Pix) : List Nat := (List.range l.length).filter fun k => seeB F zx zy (l.getD k default) p
theorem seesL_lt {F zx zy : Int} {l : List api_Pix} {p : api_Pix} : ∀ k ∈ seesL F zx zy l p, k < l.length := fun k hk => List.mem_range.1 (List.mem_filter.1 hk).1
theorem and_none {A L : List Nat} (hA : maskL A < 65536) (hL : maskL L < 65536) : (bitO .and .i64 ((maskL A : Nat) : Int) ((maskL L : Nat) : Int) == 0) = !(L.any fun k => decide (k ∈ A)) := by
 rw [and64 hA hL]
 cases h : L.any fun k => decide (k ∈ A) with
 | true =>
  obtain ⟨k, hk, hk2⟩ := List.any_eq_true.1 h
  have hb : (maskL A &&& maskL L).testBit k = true := by rw [Nat.testBit_and, maskL_bit, maskL_bit, hk2, decide_eq_true hk]; rfl
  have hne : maskL A &&& maskL L ≠ 0 := fun e => by rw [e] at hb; simp at hb
  rw [beq_eq_false_iff_ne.2 (by omega)]; rfl
 | false =>
  have hz : maskL A &&& maskL L = 0 := by
   apply Nat.eq_of_testBit_eq
   intro k
   rw [Nat.testBit_and, maskL_bit, maskL_bit, Nat.zero_testBit]
   by_cases hk : k ∈ L
   · have := List.any_eq_false.1 h k hk
     have hn : decide (k ∈ A) = false := by simpa using this
     rw [hn]; rfl
   · rw [decide_eq_false hk]; simp
  rw [hz]; rfl
theorem not_srv {F zx zy : Int} {l P : List api_Pix} (hl : l.length ≤ 8) {L : List Nat} (hL : ∀ k ∈ L, k < l.length) :
  ((P.map fun p => ((maskL (seesL F zx zy l p) : Nat) : Int)).any fun x => bitO .and .i64 x ((maskL L : Nat) : Int) == 0) = !srv F zx zy l P L := by
 have hb : (2 : Nat) ^ l.length ≤ 2 ^ 8 := Nat.pow_le_pow_right (by omega) hl
 have hmL := maskL_lt hL
 unfold srv
 induction P with
 | nil => rfl
 | cons p P ih =>
  have hmA := maskL_lt (seesL_lt (F := F) (zx := zx) (zy := zy) (l := l) (p := p))
  rw [List.map_cons, List.any_cons, List.all_cons, ih, and_none (by omega) (by omega), Bool.not_and]
  congr 2
  refine Bool.eq_iff_iff.2 ?_
  simp only [List.any_eq_true, decide_eq_true_eq]
  exact ⟨fun ⟨k, hk, h⟩ => ⟨k, hk, (List.mem_filter.1 h).2⟩, fun ⟨k, hk, h⟩ => ⟨k, hk, List.mem_filter.2 ⟨List.mem_range.2 (hL k hk), h⟩⟩⟩
theorem test_v {d F z : Int} (hd : -2097152 ≤ d ∧ d ≤ 2097152) (hF : 1 ≤ F ∧ F ≤ 1048576) : decide (wrapF .i64 (wrapF .i64 (mx (wrapF .i64 d) (wrapF .i64 (0 - wrapF .i64 d)) * 2) * F) ≤ z) = decide (2 * (d.natAbs : Int) * F ≤ z) := by
 rw [wrap64_in (n := d) (by omega) (by omega), wrap64_in (n := 0 - d) (by omega) (by omega)]
 have e : mx d (0 - d) = (d.natAbs : Int) := by unfold mx; split <;> omega
 have hb := mul_bound (a := (d.natAbs : Int) * 2) (b := F) (A := 4194304) (B := 1048576) (by omega) (by omega) (by omega) (by omega)
 rw [e, wrap64_in (n := (d.natAbs : Int) * 2) (by omega) (by omega), wrap64_in (by omega) (by omega), Int.mul_comm (d.natAbs : Int) 2]
theorem badP_f {p : api_Pix} : badP p = false ↔ near p.X ∧ near p.Y := by
 unfold badP
 rw [Bool.or_eq_false_iff, far_f, far_f]
theorem memD {α : Type} [Inhabited α] {l : List α} {k : Nat} (h : k < l.length) : l.getD k default ∈ l := by
 rw [getD_eq h]; exact List.getElem_mem h
theorem rcode_zeroC {s : api_Survey} {f : api_Flight} {ground : Int} (h : rcode s f ground = 0) : chk s = 0 ∧ near f.Height ∧ (∀ p ∈ pts f, near p.X ∧ near p.Y) ∧ near ground ∧ ¬ f.Height ≤ ground := by
 unfold rcode at h
 have c1 : chk s = 0 := by
  by_cases k : chk s = 0
  · exact k
  · rw [if_pos k] at h; exact absurd h k
 rw [if_neg (by simpa using c1)] at h
 have c2 : fcode f = 0 := by
  by_cases k : fcode f = 0
  · exact k
  · rw [if_pos k] at h; exact absurd h k
 rw [if_neg (by simpa using c2)] at h
 have c3 : far ground = false := by
  cases k : far ground with
  | false => rfl
  | true => rw [if_pos k] at h; cases h
 rw [if_neg (by rw [c3]; decide)] at h
 have c5 : ¬ f.Height ≤ ground := fun k => by rw [if_pos k] at h; cases h
 have c6 : (far f.Height || (pts f).any badP) = false := by
  cases k : (far f.Height || (pts f).any badP) with
  | false => rfl
  | true => unfold fcode at c2; rw [if_pos k] at c2; cases c2
 rw [Bool.or_eq_false_iff] at c6
 refine ⟨c1, far_f.1 c6.1, fun p hp => ?_, far_f.1 c3, c5⟩
 have := List.any_eq_false.1 c6.2 p hp
 unfold badP at this
 simp only [Bool.or_eq_true, not_or, Bool.not_eq_true] at this
 exact ⟨far_f.1 this.1, far_f.1 this.2⟩
theorem rcode_ok {s : api_Survey} {f : api_Flight} (h : rcode s f s.High = 0) : OkS s ∧ (∀ p ∈ pts f, near p.X ∧ near p.Y) ∧ near f.Height ∧ near s.High ∧ ¬ f.Height ≤ s.High := by
 obtain ⟨a, b, c, d, e⟩ := rcode_zeroC h
 exact ⟨(chk_zero a).1, c, b, d, e⟩
def CtSpec (sv : List Nat → Bool) (n : Nat) (r : List Int × Int) : Prop :=
 (r = ([], 6) ∧ ∀ C, Inc n 0 C → sv C = false) ∨ ∃ C, r = (castL C, 0) ∧ Inc n 0 C ∧ sv C = true ∧ ∀ D, Inc n 0 D → sv D = true → leS C D
theorem control_v {s : api_Survey} {f : api_Flight} {l : List api_Pix} (h1 : f.Strips.length ≤ 20) (h2 : (pts f).length ≤ 8) (hl : l.length ≤ 40) (hl8 : l.length ≤ 8 ∨ 16 < l.length) :
  Ok (plan_Control 5000 s f l) fun r =>
   if rcode s f s.High ≠ 0 then r = ([], rcode s f s.High) else if l.any badP = true then r = ([], 2) else if l.length > 16 then r = ([], 3) else l.length ≤ 8 → CtSpec (srv s.Focal (s.Along * (f.Height - s.High)) (s.Across * (f.Height - s.High)) l (pts f)) l.length r := by
 unfold plan_Control
 refine Ok.bde (askedT_v (by omega) h1 (by omega) s.High) ?_
 refine Ok.cd (fun h => ok_some.2 (by rw [if_pos (by simpa using h)])) (fun h => ?_)
 have hr0 : rcode s f s.High = 0 := by simpa using h
 have hA : ¬ rcode s f s.High ≠ 0 := by rw [hr0]; simp
 obtain ⟨ok, hp, hh, hhi, hlow⟩ := rcode_ok hr0
 obtain ⟨e1, b1, b2⟩ := rise_in ok hh hhi hlow ok.al
 obtain ⟨e2, b3, b4⟩ := rise_in ok hh hhi hlow ok.ac
 have hfo := ok.fo
 refine Ok.bd (R := fun o => match o with | .inl _ => l.any badP = false | .inr r => r = ([], 2) ∧ l.any badP = true) ?_ ?_
 · refine ok_range (len := l.length) (fun k => ∀ j, j < k → badP (l.getD j default) = false) (by omega) (by omega) (fun j hj => by omega) ?_ ?_
   · intro again k hk hP ih
     refine Ok.cd (fun _ => Ok.gd (by rw [inR_nat]; simpa using hk) ?_) (fun h => by simp at h; omega)
     rw [gt_nat]
     have hbad : badP (l.getD k default) = true → l.any badP = true := fun h => List.any_eq_true.2 ⟨_, memD hk, h⟩
     refine Ok.bde (within_v ..) (Ok.cd (fun h => ok_some.2 ⟨rfl, hbad ?_⟩) (fun hx => Ok.bde (within_v ..) (Ok.cd (fun h => ok_some.2 ⟨rfl, hbad ?_⟩) (fun hy => ih fun j hj => ?_))))
     · unfold badP; rw [far_t.2 (not_dec h)]; rfl
     · unfold badP; rw [far_t.2 (not_dec h)]; simp
     · by_cases e : j = k
       · rw [e]; exact badP_f.2 ⟨dec_of hx, dec_of hy⟩
       · exact hP j (by omega)
   · intro again hP
     exact Ok.cd (fun h => by simp at h) (fun _ => ok_some.2 (any_false_iff.2 hP))
 rintro (_ | r) ho
 · have ho : l.any badP = false := ho
   have hB : ¬ l.any badP = true := by rw [ho]; simp
   dsimp only
   refine Ok.cd (fun h => ok_some.2 ?_) (fun h => ?_)
   · have := of_decide_eq_true h
     rw [if_neg hA, if_neg hB, if_pos (by omega)]
   have h16 := of_decide_eq_false h
   have hC : ¬ l.length > 16 := by omega
   have hnear : ∀ k, k < l.length → near (l.getD k default).X ∧ near (l.getD k default).Y := fun k hk => badP_f.1 (any_false_iff.1 ho k hk)
   refine Ok.bde (concatP_v (by omega) h1 (by unfold pts at h2; omega)) ?_
   rw [show f.Strips.flatten = pts f from rfl, e1, e2]
   clear e1 e2
   generalize s.Along * (f.Height - s.High) = zx at *
   generalize s.Across * (f.Height - s.High) = zy at *
   generalize pts f = P at *
   refine Ok.bd (R := fun o => o = P.map fun p => ((maskL (seesL s.Focal zx zy l p) : Nat) : Int)) ?_ ?_
   · refine ok_rangeR (len := P.length) (fun k (c : List Int) => c = (P.take k).map fun p => ((maskL (seesL s.Focal zx zy l p) : Nat) : Int)) (by omega) (by omega) rfl ?_ ?_
     · rintro again k c hk rfl ih
       refine Ok.cd (fun _ => Ok.gd (by rw [inR_nat]; simpa using hk) ?_) (fun h => by simp at h; omega)
       rw [gt_nat]
       have hpk := hp _ (memD hk)
       refine Ok.bd (R := fun o => o = ((maskL (seesL s.Focal zx zy l (P.getD k default)) : Nat) : Int)) ?_ ?_
       · refine ok_rangeR (len := l.length) (fun j (c : Int) => c = ((maskL ((List.range j).filter fun k' => seeB s.Focal zx zy (l.getD k' default) (P.getD k default)) : Nat) : Int)) (by omega) (by omega) rfl ?_ ?_
         · rintro again2 j c hj rfl ih2
           refine Ok.cd (fun _ => Ok.gd (by rw [inR_nat]; simpa using hj) ?_) (fun h => by simp at h; omega)
           rw [gt_nat]
           obtain ⟨nx, ny⟩ := hnear j hj
           unfold near at nx ny hpk
           rw [test_v (by omega) (by omega), test_v (by omega) (by omega)]
           have hlt : ∀ k' ∈ (List.range j).filter (fun k' => seeB s.Focal zx zy (l.getD k' default) (P.getD k default)), k' < 15 := fun k' hk' => by
            have := List.mem_range.1 (List.mem_filter.1 hk').1; omega
           have hm := maskL_lt hlt
           have e15 : (2 : Nat) ^ 15 = 32768 := rfl
           have hp2 : (2 : Nat) ^ j ≤ 2 ^ 15 := Nat.pow_le_pow_right (by omega) (by omega)
           have hin : ∀ b, seeB s.Focal zx zy (l.getD j default) (P.getD k default) = b → (List.range (j + 1)).filter (fun k' => seeB s.Focal zx zy (l.getD k' default) (P.getD k default)) = (List.range j).filter (fun k' => seeB s.Focal zx zy (l.getD k' default) (P.getD k default)) ++ (if b then [j] else []) := by
            intro b hb
            rw [List.range_succ, List.filter_append, List.filter_cons, hb]; rfl
           refine Ok.cd (fun hX => Ok.cd (fun hY => Ok.gd (decide_eq_true (by omega)) (ih2 _ ?_)) (fun hY => ih2 _ ?_)) (fun hX => ih2 _ ?_)
           · rw [hin true (by unfold seeB; rw [hX, hY]; rfl), shl64 (by omega), or64 (by omega) (by omega)]
             show _ = ((maskL (_ ++ [j]) : Nat) : Int)
             rw [maskL_snoc]
           · rw [hin false (by unfold seeB; rw [hX, hY]; rfl)]; simp
           · rw [hin false (by unfold seeB; rw [hX]; rfl)]; simp
         · rintro again2 c rfl
           exact Ok.cd (fun h => by simp at h) (fun _ => ok_some.2 rfl)
       · rintro o rfl
         have hlen : ((P.take k).map fun p => ((maskL (seesL s.Focal zx zy l p) : Nat) : Int)).length ≤ 8 := by rw [List.length_map, List.length_take]; omega
         dsimp only
         refine Ok.gd (decide_eq_true (by omega)) (Ok.gd (decide_eq_true (by omega)) (ih _ ?_))
         rw [take_succ_getD hk, List.map_append]; rfl
     · rintro again c rfl
       exact Ok.cd (fun h => by simp at h) (fun _ => ok_some.2 (by rw [List.take_length]))
   · rintro o rfl
     have h8 : l.length ≤ 8 := by omega
     have hch := fun left (hlf : left ≤ l.length) => choose_v (f := 5000) (sees := P.map fun p => ((maskL (seesL s.Focal zx zy l p) : Nat) : Int)) h8 (by omega) (srv s.Focal zx zy l P) (fun L hL => by
      rw [has_v _ (by rw [List.length_map]; omega) (by rw [List.length_map]; omega), not_srv h8 hL]) left 5000 [] 0 (by omega) (fun k hk => by cases hk) (by simp; omega) (by omega)
     refine Ok.bd (R := fun o => match o with | .inl _ => ∀ C, Inc l.length 0 C → srv s.Focal zx zy l P C = false | .inr r => CtSpec (srv s.Focal zx zy l P) l.length r) ?_ ?_
     · rw [wrap64_in (n := (l.length : Int) + 1) (by omega) (by omega), show (l.length : Int) + 1 = ((l.length + 1 : Nat) : Int) by omega]
       refine ok_range (len := l.length + 1) (fun k => ∀ C, Inc l.length 0 C → C.length < k → srv s.Focal zx zy l P C = false) (by omega) (by omega) (fun C _ h => by omega) ?_ ?_
       · intro again k hk hP ih
         refine Ok.cd (fun _ => Ok.bd (hch k (by omega)) ?_) (fun h => by simp at h; omega)
         rintro r (⟨rfl, hr⟩ | ⟨C, rfl, hC, e, hs, hmin⟩)
         · exact Ok.cd (fun _ => ih fun C hC e => by
            by_cases ek : C.length = k
            · exact hr C hC ek
            · exact hP C hC (by omega)) (fun h => by cases h)
         · refine Ok.cd (fun h => by cases h) (fun _ => ok_some.2 (.inr ⟨C, rfl, hC, hs, fun D hD hsD => ?_⟩))
           by_cases ek : D.length < k
           · rw [hP D hD ek] at hsD; cases hsD
           · by_cases e2 : D.length = k
             · exact .inr ⟨by omega, hmin D hD e2 hsD⟩
             · exact .inl (by omega)
       · intro again hP
         refine Ok.cd (fun h => by simp at h) (fun _ => ok_some.2 fun C hC => hP C hC ?_)
         have := hC.len (by omega)
         omega
     · rintro (_ | r) ho2
       · exact ok_some.2 (by rw [if_neg hA, if_neg hB, if_neg hC]; exact fun _ => .inl ⟨rfl, ho2⟩)
       · exact ok_some.2 (by rw [if_neg hA, if_neg hB, if_neg hC]; exact fun _ => ho2)
 · obtain ⟨rfl, hb⟩ := ho
   exact ok_some.2 (by rw [if_neg hA, if_pos hb])
end Go.L


set_option linter.all false
namespace Go.L
open Go Go.Eng
theorem size_okC {n : Nat} (hn : 5000 ≤ n) {s : api_Survey} (ok : OkS s) {height ground : Int} (h1 : near height) (h2 : near ground) (hg : ¬ height ≤ ground) :
  Ok (fiduciallaw55_size n s height ground) fun v => R.Qx v.1 (Rat.divInt (s.Along * (height - ground)) s.Focal) 3 ∧ R.Qx v.2 (Rat.divInt (s.Across * (height - ground)) s.Focal) 3 := by
 have hf := ok.fo
 obtain ⟨e1, b1, b2⟩ := rise_in ok h1 h2 hg ok.al
 obtain ⟨e2, b3, b4⟩ := rise_in ok h1 h2 hg ok.ac
 unfold fiduciallaw55_size
 rw [e1, e2]
 refine Ok.bd (R.qOf_ok hn (by omega) (by omega) (by omega) (by omega) (by omega)) fun x hx => Ok.bd (R.qOf_ok hn (by omega) (by omega) (by omega) (by omega) (by omega)) fun y hy => ok_some.2 ⟨hx.1, hy.1⟩
theorem near1 {F z p a : Int} : nearG 1 F z p a = decide (2 * ((p - a).natAbs : Int) * F ≤ z) := by
 unfold nearG; rw [Int.mul_one, Int.mul_one]
theorem takeAny {α : Type} [Inhabited α] {C : List α} {j : Nat} (h : j < C.length) (q : α → Bool) : (C.take (j + 1)).any q = ((C.take j).any q || q (C.getD j default)) := by
 rw [take_succ_getD h, List.any_append]; simp
theorem serves_v {s : api_Survey} {f : api_Flight} {l : List api_Pix} {C : List Nat} (ok : OkS s) (hb : fsz f ≤ 1048576) (h1 : f.Strips.length ≤ 20) (h2 : (pts f).length ≤ 8) (hl : l.length ≤ 8) (hp : ∀ p ∈ pts f, near p.X ∧ near p.Y) (hh : near f.Height) (hhi : near s.High) (hlow : ¬ f.Height ≤ s.High) (hnear : ∀ k, k < l.length → near (l.getD k default).X ∧ near (l.getD k default).Y)
  (hC : Inc l.length 0 C) : fiduciallaw55_serves 5000 s f l (castL C) = some (srv s.Focal (s.Along * (f.Height - s.High)) (s.Across * (f.Height - s.High)) l (pts f) C) := by
 have hfo := ok.fo
 have hlen := hC.len (by omega)
 apply Ok.eq
 unfold fiduciallaw55_serves
 refine Ok.bd (size_okC (by omega) ok hh hhi hlow) fun w hw => Ok.bde (positions_v (by omega) hb) ?_
 generalize s.Along * (f.Height - s.High) = zx at *
 generalize s.Across * (f.Height - s.High) = zy at *
 generalize pts f = P at *
 refine Ok.bd (R := fun o => match o with | .inl _ => srv s.Focal zx zy l P C = true | .inr r => r = false ∧ srv s.Focal zx zy l P C = false) ?_ ?_
 · refine ok_range (len := P.length) (fun k => ∀ j, j < k → (C.any fun k' => seeB s.Focal zx zy (l.getD k' default) (P.getD j default)) = true) (by omega) (by omega) (fun j hj => by omega) ?_ ?_
   · intro again k hk hP ih
     refine Ok.cd (fun _ => Ok.gd (by rw [inR_nat]; simpa using hk) ?_) (fun h => by simp at h; omega)
     rw [gt_nat]
     have hpk := hp _ (memD hk)
     refine Ok.bd (R := fun o => o = C.any fun k' => seeB s.Focal zx zy (l.getD k' default) (P.getD k default)) ?_ ?_
     · refine ok_rangeR (len := (castL C).length) (fun j (c : Bool) => c = (C.take j).any fun k' => seeB s.Focal zx zy (l.getD k' default) (P.getD k default)) (by rw [castL_len]; omega) (by rw [castL_len]; omega) rfl ?_ ?_
       · rintro again2 j c hj rfl ih2
         have hj2 : j < C.length := by rwa [castL_len] at hj
         have hCj := (hC.mem _ (memD hj2)).2
         obtain ⟨nx, ny⟩ := hnear _ hCj
         unfold near at nx ny hpk
         have step := fun b (hb : seeB s.Focal zx zy (l.getD (C.getD j default) default) (P.getD k default) = b) => ih2 ((C.take j).any (fun k' => seeB s.Focal zx zy (l.getD k' default) (P.getD k default)) || b) (by rw [takeAny hj2, hb])
         refine Ok.cd (fun _ => Ok.gd (by rw [inR_nat]; simpa using hj) ?_) (fun h => by simp at h; omega)
         generalize ((C.take j).any fun k' => seeB s.Focal zx zy (l.getD k' default) (P.getD k default)) = c at *
         refine Ok.cd (fun h => ?_) (fun h => ?_)
         · subst h
           have := step _ rfl
           rwa [Bool.true_or] at this
         · subst h
           rw [gt_nat, castL_at hj2]
           refine Ok.gd (by rw [inR_nat]; simpa using hCj) ?_
           rw [gt_nat]
           refine Ok.bd (R.qWhole_ok (by omega) (by omega) (by omega)) fun x hx => Ok.bde (nearG_ok (by omega) hx hw.1 (by omega) (by omega) (by omega) (by omega)) ?_
           rw [near1]
           refine Ok.cd (fun hX => ?_) (fun hX => ?_)
           · refine Ok.bd (R.qWhole_ok (by omega) (by omega) (by omega)) fun y hy => Ok.bde (nearG_ok (by omega) hy hw.2 (by omega) (by omega) (by omega) (by omega)) ?_
             rw [near1]
             have := step _ rfl
             unfold seeB at this
             rw [hX, Bool.true_and, Bool.false_or] at this
             exact this
           · have := step false (by unfold seeB; rw [hX]; rfl)
             exact this
       · rintro again2 c rfl
         exact Ok.cd (fun h => by simp at h) (fun _ => ok_some.2 (by rw [castL_len, List.take_length]))
     · rintro o rfl
       refine Ok.cd (fun h => ok_some.2 ⟨rfl, ?_⟩) (fun h => ih fun j hj => ?_)
       · unfold srv
         rw [List.all_eq_false]
         exact ⟨_, memD hk, by simpa using h⟩
       · by_cases e : j = k
         · rw [e]; simpa using h
         · exact hP j (by omega)
   · intro again hP
     refine Ok.cd (fun h => by simp at h) (fun _ => ok_some.2 ?_)
     unfold srv
     rw [List.all_eq_true]
     intro p hpm
     obtain ⟨j, hj, rfl⟩ := List.getElem_of_mem hpm
     have := hP j hj
     rwa [getD_eq hj] at this
 · rintro (_ | r) ho
   · exact ok_some.2 ho.symm
   · exact ok_some.2 (by rw [ho.2]; exact ho.1)
theorem lxN_at : ∀ (j : Nat) (a b : List Nat), j < a.length → j < b.length → (∀ i, i < j → a.getD i default = b.getD i default) → a.getD j default ≠ b.getD j default → lxN a b = decide (a.getD j default < b.getD j default)
 | 0, x :: a, y :: b, _, _, _, hne => by
  have hne : x ≠ y := by simpa using hne
  show (decide (x < y) || (decide (x = y) && lxN a b)) = decide (x < y)
  rw [decide_eq_false hne]; simp
 | j + 1, x :: a, y :: b, ha, hb, h, hne => by
  have e : x = y := by simpa using h 0 (by omega)
  have := lxN_at j a b (by simpa using ha) (by simpa using hb) (fun i hi => by simpa using h (i + 1) (by omega)) (by simpa using hne)
  show (decide (x < y) || (decide (x = y) && lxN a b)) = decide _
  rw [this, e]; simp
 | _, [], _, h, _, _, _ => by simp at h
 | _, _ :: _, [], _, h, _, _ => by simp at h
theorem list_ext {a b : List Nat} (hl : a.length = b.length) (h : ∀ i, i < a.length → a.getD i default = b.getD i default) : a = b := by
 refine List.ext_getElem hl fun i h1 h2 => ?_
 have := h i h1
 rwa [getD_eq h1, getD_eq h2] at this
theorem cmpI_v (n : Nat) (x y : Int) : cmp_Compare_int n x y = some (if x < y then -1 else if x > y then 1 else 0) := by
 apply Ok.eq
 unfold cmp_Compare_int cmp_isNaN_int
 refine Ok.bde rfl (Ok.bde rfl ?_)
 refine Ok.cd (fun h => by simp at h) (fun _ => Ok.cd (fun h => by simp at h) (fun _ => ?_))
 refine Ok.cd (fun h => ok_some.2 (by rw [if_pos (of_decide_eq_true h)])) (fun h => ?_)
 rw [if_neg (of_decide_eq_false h)]
 exact Ok.cd (fun h => ok_some.2 (by rw [if_pos (of_decide_eq_true h)])) (fun h => ok_some.2 (by rw [if_neg (of_decide_eq_false h)]))
theorem compare_v {a b : List Nat} (hl : a.length = b.length) (h8 : a.length ≤ 8) : Ok (slices_Compare_int_int 5000 (castL a) (castL b)) fun v => decide (v > 0) = !lxN a b := by
 unfold slices_Compare_int_int
 rw [castL_len, castL_len]
 refine Ok.bd (R := fun o => match o with | .inl _ => a = b | .inr v => decide (v > 0) = !lxN a b) ?_ ?_
 · refine ok_range (len := a.length) (fun k => ∀ j, j < k → a.getD j default = b.getD j default) (by omega) (by omega) (fun j hj => by omega) ?_ ?_
   · intro again k hk hP ih
     refine Ok.cd (fun _ => Ok.gd (by rw [inR_nat]; simpa using hk) (Ok.cd (fun h => by have := of_decide_eq_true h; omega) (fun _ => Ok.gd (by rw [inR_nat]; simp; omega) ?_))) (fun h => by simp at h; omega)
     rw [gt_nat, gt_nat, castL_at hk, castL_at (by omega)]
     refine Ok.bde (cmpI_v ..) ?_
     refine Ok.cd (fun h => ok_some.2 ?_) (fun h => ih fun j hj => ?_)
     · have hne : a.getD k default ≠ b.getD k default := fun e => by rw [e] at h; simp at h
       show decide (_ > 0) = _
       rw [lxN_at k a b hk (by omega) hP hne]
       generalize a.getD k default = x at *
       generalize b.getD k default = y at *
       by_cases hxy : x < y
       · rw [if_pos (by omega), decide_eq_true hxy]; rfl
       · rw [if_neg (by omega), if_pos (by omega), decide_eq_false hxy]; rfl
     · by_cases e : j = k
       · subst e
         generalize a.getD j default = x at *
         generalize b.getD j default = y at *
         by_cases hxy : (x : Int) < y
         · rw [if_pos hxy] at h; simp at h
         · rw [if_neg hxy] at h
           by_cases hyx : (x : Int) > y
           · rw [if_pos hyx] at h; simp at h
           · omega
       · exact hP j (by omega)
   · intro again hP
     exact Ok.cd (fun h => by simp at h) (fun _ => ok_some.2 (list_ext hl hP))
 · rintro (_ | v) ho
   · have ho : a = b := ho
     subst ho
     refine Ok.cd (fun h => by simp at h) (fun _ => ok_some.2 ?_)
     rw [lxN_refl]; rfl
   · exact ok_some.2 ho
theorem setN_succ (x k : Nat) : setN x 0 (k + 1) = setN x 0 k ++ (if x.testBit k = true then [k] else []) := by
 unfold setN
 rw [List.range'_concat, List.filter_append, List.filter_cons]
 simp
theorem setN_ok (x n : Nat) : Inc n 0 (setN x 0 n) := by
 have := setN_inc x n 0
 rwa [Nat.zero_add] at this
theorem law_control {s : api_Survey} {f : api_Flight} {l : List api_Pix} (hl : l.length ≤ 8) (sv : List Nat → Bool) (hs : ∀ C, Inc l.length 0 C → fiduciallaw55_serves 5000 s f l (castL C) = some (sv C)) :
  Ok (fiduciallaw55_control 5000 s f l) fun r => (r = ([], false) ∧ ∀ C, Inc l.length 0 C → sv C = false) ∨ ∃ C, r = (castL C, true) ∧ Inc l.length 0 C ∧ sv C = true ∧ ∀ D, Inc l.length 0 D → sv D = true → leS C D := by
 unfold fiduciallaw55_control
 refine Ok.gd (decide_eq_true (by omega)) ?_
 rw [shl64 (by omega)]
 have hb : (2 : Nat) ^ l.length ≤ 2 ^ 8 := Nat.pow_le_pow_right (by omega) hl
 have e8 : (2 : Nat) ^ 8 = 256 := rfl
 obtain ⟨N, hN⟩ : ∃ N, N = 2 ^ l.length := ⟨_, rfl⟩
 rw [← hN] at hb ⊢
 refine Ok.bd (R := fun r => (r = ([], false) ∧ ∀ C, Inc l.length 0 C → sv C = false) ∨ ∃ C, r = (castL C, true) ∧ Inc l.length 0 C ∧ sv C = true ∧ ∀ D, Inc l.length 0 D → sv D = true → leS C D) ?_ (fun r hr => ok_some.2 hr)
 refine ok_rangeG (σ := List Int × Bool × Int) (fun (c : List Int × Bool) x => (c.1, c.2, x)) (len := N)
  (fun k (c : List Int × Bool) => (c = ([], false) ∧ ∀ y, y < k → sv (setN y 0 l.length) = false) ∨ ∃ C, c = (castL C, true) ∧ Inc l.length 0 C ∧ sv C = true ∧ ∀ y, y < k → sv (setN y 0 l.length) = true → leS C (setN y 0 l.length))
  (by omega) (by omega) (c0 := ([], false)) (.inl ⟨rfl, fun y hy => by omega⟩) ?_ ?_
 · rintro again x c hx hinv ih
   dsimp only
   refine Ok.cd (fun _ => ?_) (fun h => by simp at h; omega)
   refine Ok.bd (R := fun o => o = castL (setN x 0 l.length)) ?_ ?_
   · refine ok_rangeR (len := l.length) (fun j (c : List Int) => c = castL (setN x 0 j)) (by omega) (by omega) rfl ?_ ?_
     · rintro again2 j c hj rfl ih2
       have hsl := (setN_ok x j).len (by omega)
       refine Ok.cd (fun _ => Ok.gd (decide_eq_true (by omega)) ?_) (fun h => by simp at h; omega)
       rw [shr64 (by omega) (by omega)]
       have hstep := setN_succ x j
       dsimp only
       refine Ok.cd (fun h => Ok.gd (decide_eq_true (by rw [castL_len]; omega)) (Ok.gd (decide_eq_true (by rw [castL_len]; omega)) (ih2 _ ?_))) (fun h => ih2 _ ?_)
       · rw [hstep, if_pos h, castL_snoc]
       · rw [hstep, if_neg (by rw [h]; decide), List.append_nil]
     · rintro again2 c rfl
       exact Ok.cd (fun h => by simp at h) (fun _ => ok_some.2 rfl)
   · rintro o rfl
     have hS := setN_ok x l.length
     have hsl := hS.len (by omega)
     have hsv := hs _ hS
     have none_step : (∀ y, y < x → sv (setN y 0 l.length) = false) → sv (setN x 0 l.length) = false → ∀ y, y < x + 1 → sv (setN y 0 l.length) = false := fun h k y hy => by
      by_cases e : y = x
      · rw [e]; exact k
      · exact h y (by omega)
     have some_step : ∀ C, (∀ y, y < x → sv (setN y 0 l.length) = true → leS C (setN y 0 l.length)) → (sv (setN x 0 l.length) = true → leS C (setN x 0 l.length)) → ∀ y, y < x + 1 → sv (setN y 0 l.length) = true → leS C (setN y 0 l.length) := fun C h k y hy => by
      by_cases e : y = x
      · rw [e]; exact k
      · exact h y (by omega)
     generalize setN x 0 l.length = S at *
     rcases hinv with ⟨rfl, hno⟩ | ⟨C, rfl, hC, hcs, hmin⟩
     · dsimp only
       refine Ok.cd (fun h => by cases h) (fun _ => Ok.bde hsv (Ok.cd (fun h => ih (castL S, true) (.inr ⟨S, rfl, hS, h, ?_⟩)) (fun h => ih ([], false) (.inl ⟨rfl, none_step hno h⟩))))
       exact some_step S (fun y hy hy2 => by rw [hno y hy] at hy2; cases hy2) (fun _ => leS_refl S)
     · dsimp only
       refine Ok.cd (fun _ => ?_) (fun h => by cases h)
       rw [castL_len, castL_len]
       have keep : leS C S → Ok (again (castL C, true, wrapF .i64 ((x : Int) + 1))) _ := fun h => ih (castL C, true) (.inr ⟨C, rfl, hC, hcs, some_step C hmin (fun _ => h)⟩)
       have test : leS S C → Ok (bdO (fiduciallaw55_serves 5000 s f l (castL S)) fun v => cdO v (again (castL S, true, wrapF .i64 ((x : Int) + 1))) (again (castL C, true, wrapF .i64 ((x : Int) + 1)))) _ := fun hle => Ok.bde hsv (Ok.cd (fun h => ih (castL S, true) (.inr ⟨S, rfl, hS, h, some_step S (fun y hy hy2 => leS_trans hle (hmin y hy hy2)) (fun _ => leS_refl S)⟩)) (fun h => ih (castL C, true) (.inr ⟨C, rfl, hC, hcs, some_step C hmin (fun k => by rw [h] at k; cases k)⟩)))
       refine Ok.cd (fun h => keep (.inl (by have := of_decide_eq_true h; omega))) (fun h => ?_)
       have h := of_decide_eq_false h
       refine Ok.cd (fun e => ?_) (fun e => ?_)
       · have e : S.length = C.length := by have := beq_iff_eq.1 e; omega
         refine Ok.bd (compare_v e (by omega)) fun v hv => ?_
         rw [hv]
         refine Ok.cd (fun k => ?_) (fun k => ?_)
         · have k : lxN S C = false := by simpa using k
           rcases lxN_total S C with q | q
           · rw [q] at k; cases k
           · exact keep (.inr ⟨e.symm, q⟩)
         · have k : lxN S C = true := by simpa using k
           exact test (.inr ⟨e, k⟩)
       · have e : S.length ≠ C.length := fun q => by rw [q] at e; simp at e
         exact test (.inl (by omega))
 · rintro again c hinv
   dsimp only
   refine Ok.cd (fun h => by simp at h) (fun _ => ok_some.2 ?_)
   have all : ∀ D, Inc l.length 0 D → ∃ y, y < N ∧ setN y 0 l.length = D := fun D hD => ⟨maskL D, by rw [hN]; exact maskL_lt fun k hk => (hD.mem k hk).2, setN_mask hD⟩
   rcases hinv with ⟨rfl, hno⟩ | ⟨C, rfl, hC, hcs, hmin⟩
   · exact .inl ⟨rfl, fun D hD => by obtain ⟨y, hy, rfl⟩ := all D hD; exact hno y hy⟩
   · exact .inr ⟨C, rfl, hC, hcs, fun D hD hD2 => by obtain ⟨y, hy, rfl⟩ := all D hD; exact hmin y hy hD2⟩
end Go.L

