import Derived.Test.YtiicieaabeamoaaGreatPasL01k
set_option linter.all false
namespace Go.L
open Go Go.Eng
theorem w64_pred2 {k : Nat} (h : 1 < k) (h2 : k ≤ 4000000000) : wrapF .i64 ((k : Int) - 2) = ((k - 2 : Nat) : Int) := by rw [wrap64_in (by omega) (by omega)]; omega
theorem vk_set_ge {l : List Int} {k j : Nat} {x : Int} (h : j ≤ k) : vk (l.set k x) j = vk l j := by unfold vk; rw [List.take_set_of_le h]
def LongR (v u0 : List Int) (m : Nat) (r : List Int × List Int) : Prop := Dig r.1 ∧ Dig r.2 ∧ r.1.length = m ∧ r.2.length = u0.length ∧ vl r.2 < vl v ∧ vl r.2 + vl r.1 * vl v = vl u0
theorem main_ok {n : Nat} (hn : 1000 ≤ n) {v u0 : List Int} {m : Nat} (hv : Dig v) (hv1 : 500000000 ≤ v.getD (v.length - 1) 0) (lv : 2 ≤ v.length) (lv2 : v.length ≤ 400) (hu : Dig u0) (lu : u0.length = v.length + m) (lu2 : u0.length ≤ 900) (h0 : vl (u0.drop m) < vl v) {j0 : Int} (hj0 : j0 = (m : Int) - 1) :
  Ok (loopO (α := List Int × List Int × Int) (β := List Int × List Int) n (fun again86 (q_15, u_16, j_17) => (
   cdO (decide (j_17 ≥ 0)) (
    bdO (integer_at n u_16 (wrapF .i64 (j_17 + (v.length : Int)))) fun v88 => (
    gdO (inR (wrapF .i64 ((wrapF .i64 (j_17 + (v.length : Int))) - 1)) u_16.length) (
    gdO (inR (wrapF .i64 ((v.length : Int) - 1)) v.length) (
    gdO (!decide (wrapF .u64 (gt v (wrapF .i64 ((v.length : Int) - 1))) = 0)) (
    bdO (loopO (α := Int × Int) (β := Int) n (fun again102 (guess_93, rest_94) => (
     cdO (decide (guess_93 ≥ 1000000000)) (
      cdO (decide ((wrapF .u64 (rest_94 + (wrapF .u64 (gt v (wrapF .i64 ((v.length : Int) - 1)))))) ≥ 1000000000)) (
       some (wrapF .u64 (guess_93 - 1))
      ) (
       again102 (wrapF .u64 (guess_93 - 1), wrapF .u64 (rest_94 + (wrapF .u64 (gt v (wrapF .i64 ((v.length : Int) - 1))))))
      )
     ) (
      gdO (inR (wrapF .i64 ((v.length : Int) - 2)) v.length) (
      gdO (inR (wrapF .i64 ((wrapF .i64 (j_17 + (v.length : Int))) - 2)) u_16.length) (
      cdO (decide ((wrapF .u64 (guess_93 * (wrapF .u64 (gt v (wrapF .i64 ((v.length : Int) - 2)))))) > (wrapF .u64 ((wrapF .u64 (rest_94 * 1000000000)) + (wrapF .u64 (gt u_16 (wrapF .i64 ((wrapF .i64 (j_17 + (v.length : Int))) - 2)))))))) (
       cdO (decide ((wrapF .u64 (rest_94 + (wrapF .u64 (gt v (wrapF .i64 ((v.length : Int) - 1)))))) ≥ 1000000000)) (
        some (wrapF .u64 (guess_93 - 1))
       ) (
        again102 (wrapF .u64 (guess_93 - 1), wrapF .u64 (rest_94 + (wrapF .u64 (gt v (wrapF .i64 ((v.length : Int) - 1))))))
       )
      ) (
       some (guess_93)
      )
      )
      )
     )
    )) (wrapF .u64 ((wrapF .u64 ((wrapF .u64 ((wrapF .u64 v88) * 1000000000)) + (wrapF .u64 (gt u_16 (wrapF .i64 ((wrapF .i64 (j_17 + (v.length : Int))) - 1)))))).tdiv (wrapF .u64 (gt v (wrapF .i64 ((v.length : Int) - 1))))), (wrapF .u64 ((wrapF .u64 ((wrapF .u64 v88) * 1000000000)) + (wrapF .u64 (gt u_16 (wrapF .i64 ((wrapF .i64 (j_17 + (v.length : Int))) - 1)))))).tmod (wrapF .u64 (gt v (wrapF .i64 ((v.length : Int) - 1)))))) fun guess_101 => (
     bdO (loopO (α := List Int × Int × Int × Int) (β := List Int × Int × Int) n (fun again123 (u_112, borrow_113, carry_114, x_115) => (
      cdO (decide (x_115 < (v.length : Int))) (
       gdO (inR x_115 v.length) (
       gdO (inR (wrapF .i64 (x_115 + j_17)) u_112.length) (
       cdO (decide ((wrapF .i64 ((wrapF .i64 ((wrapF .i64 (gt u_112 (wrapF .i64 (x_115 + j_17)))) - borrow_113)) - (wrapF .i64 ((wrapF .u64 ((wrapF .u64 (guess_101 * (wrapF .u64 (gt v x_115)))) + carry_114)).tmod 1000000000)))) < 0)) (
        again123 (u_112.set (wrapF .i64 (x_115 + j_17)).toNat (wrapF .u32 (wrapF .i64 ((wrapF .i64 ((wrapF .i64 ((wrapF .i64 (gt u_112 (wrapF .i64 (x_115 + j_17)))) - borrow_113)) - (wrapF .i64 ((wrapF .u64 ((wrapF .u64 (guess_101 * (wrapF .u64 (gt v x_115)))) + carry_114)).tmod 1000000000)))) + 1000000000))), 1, wrapF .u64 ((wrapF .u64 ((wrapF .u64 (guess_101 * (wrapF .u64 (gt v x_115)))) + carry_114)).tdiv 1000000000), wrapF .i64 (x_115 + 1))
       ) (
        again123 (u_112.set (wrapF .i64 (x_115 + j_17)).toNat (wrapF .u32 (wrapF .i64 ((wrapF .i64 ((wrapF .i64 (gt u_112 (wrapF .i64 (x_115 + j_17)))) - borrow_113)) - (wrapF .i64 ((wrapF .u64 ((wrapF .u64 (guess_101 * (wrapF .u64 (gt v x_115)))) + carry_114)).tmod 1000000000))))), 0, wrapF .u64 ((wrapF .u64 ((wrapF .u64 (guess_101 * (wrapF .u64 (gt v x_115)))) + carry_114)).tdiv 1000000000), wrapF .i64 (x_115 + 1))
       )
       )
       )
      ) (
       some ((u_112, borrow_113, carry_114))
      )
     )) (u_16, 0, 0, 0)) fun o128 => (
      match o128 with
      | (u_120, borrow_121, carry_122) => (
       gdO (inR (wrapF .i64 (j_17 + (v.length : Int))) u_120.length) (
       cdO (decide ((wrapF .i64 ((wrapF .i64 ((wrapF .i64 (gt u_120 (wrapF .i64 (j_17 + (v.length : Int))))) - borrow_121)) - (wrapF .i64 carry_122))) < 0)) (
        bdO (loopO (α := List Int × Int × Int) (β := List Int × Int) n (fun again142 (u_133, c_134, x_135) => (
         cdO (decide (x_135 < (v.length : Int))) (
          gdO (inR (wrapF .i64 (x_135 + j_17)) u_133.length) (
          gdO (inR x_135 v.length) (
          cdO (decide ((wrapF .u32 ((wrapF .u32 ((gt u_133 (wrapF .i64 (x_135 + j_17))) + (gt v x_135))) + c_134)) ≥ 1000000000)) (
           again142 (u_133.set (wrapF .i64 (x_135 + j_17)).toNat (wrapF .u32 ((wrapF .u32 ((wrapF .u32 ((gt u_133 (wrapF .i64 (x_135 + j_17))) + (gt v x_135))) + c_134)) - 1000000000)), 1, wrapF .i64 (x_135 + 1))
          ) (
           again142 (u_133.set (wrapF .i64 (x_135 + j_17)).toNat (wrapF .u32 ((wrapF .u32 ((gt u_133 (wrapF .i64 (x_135 + j_17))) + (gt v x_135))) + c_134)), 0, wrapF .i64 (x_135 + 1))
          )
          )
          )
         ) (
          some ((u_133, c_134))
         )
        )) (u_120.set (wrapF .i64 (j_17 + (v.length : Int))).toNat (wrapF .u32 (wrapF .i64 ((wrapF .i64 ((wrapF .i64 ((wrapF .i64 (gt u_120 (wrapF .i64 (j_17 + (v.length : Int))))) - borrow_121)) - (wrapF .i64 carry_122))) + 1000000000))), 0, 0)) fun o147 => (
         match o147 with
         | (u_140, c_141) => (
          gdO (inR (wrapF .i64 (j_17 + (v.length : Int))) u_140.length) (
          gdO (inR j_17 q_15.length) (
          again86 (q_15.set j_17.toNat (wrapF .u32 (wrapF .u64 (guess_101 - 1))), u_140.set (wrapF .i64 (j_17 + (v.length : Int))).toNat ((wrapF .u32 ((gt u_140 (wrapF .i64 (j_17 + (v.length : Int)))) + c_141)).tmod 1000000000), wrapF .i64 (j_17 - 1))
          )
          )
         ))
       ) (
        gdO (inR j_17 q_15.length) (
        again86 (q_15.set j_17.toNat (wrapF .u32 guess_101), u_120.set (wrapF .i64 (j_17 + (v.length : Int))).toNat (wrapF .u32 (wrapF .i64 ((wrapF .i64 ((wrapF .i64 (gt u_120 (wrapF .i64 (j_17 + (v.length : Int))))) - borrow_121)) - (wrapF .i64 carry_122)))), wrapF .i64 (j_17 - 1))
        )
       )
       )
      ))
    )
    )
    )
    )
    )
   ) (
    some ((q_15, u_16))
   )
  )) (List.replicate m (0 : Int), u0, j0)) (LongR v u0 m) := by
 subst hj0
 have hV := vl_nonneg hv
 refine ok_loop (fun x : List Int × List Int × Int => ∃ k : Nat, x.2.2 = (k : Int) - 1 ∧ k ≤ m ∧ x.2.1.length = u0.length ∧ Dig x.2.1 ∧ x.1.length = m ∧ Dig x.1 ∧ (∀ i, i < k → x.1.getD i 0 = 0) ∧ vl (x.2.1.drop k) < vl v ∧ vl x.2.1 + vl x.1 * vl v = vl u0) (fun x => (x.2.2 + 1).toNat) ?_ n _
  ⟨m, rfl, Nat.le_refl _, rfl, hu, by simp, dig_rep _, fun i _ => at_rep, h0, by simp [vl_rep]⟩ (by simp; omega)
 rintro again ⟨q, u, x⟩ ⟨k, hx, h1, h2, h3, h4, h5, h6, h7, h8⟩ ih
 simp only at hx h2 h3 h4 h5 h6 h7 h8
 subst hx
 dsimp only
 refine Ok.cd (fun h => ?_) (fun h => ?_)
 · have hk := of_decide_eq_true h
   obtain ⟨j, rfl⟩ : ∃ j, k = j + 1 := ⟨k - 1, by omega⟩
   have ej : (((j + 1 : Nat) : Int) - 1) = (j : Int) := by omega
   rw [ej]
   rw [w64_add (k := v.length) (by omega) (by omega), w64_pred (k := j + v.length) (by omega) (by omega), w64_pred2 (k := j + v.length) (by omega) (by omega), w64_pred (k := v.length) (by omega) (by omega), w64_pred2 (k := v.length) (by omega) (by omega), at_ok]
   rw [gt_int (l := v) (k := v.length - 1), gt_int (l := v) (k := v.length - 2), gt_int (l := u) (k := j + v.length - 1), gt_int (l := u) (k := j + v.length - 2)]
   refine Ok.bde rfl ?_
   have hlt : vl (u.drop j) < 1000000000 * vl v := by
    have := vl_drop0 u j; have := dig_at h3 j; omega
   have kn := kn_of (X := u.drop j) lv (dig_drop h3 j) hv rfl hv1 hlt
   rw [getD_drop, getD_drop, getD_drop, (by omega : j + (v.length - 2) = j + v.length - 2), (by omega : j + (v.length - 1) = j + v.length - 1)] at kn
   have d0 := dig_at h3 (j + v.length - 2); have d1 := dig_at h3 (j + v.length - 1); have d2 := dig_at h3 (j + v.length)
   have e1 := dig_at hv (v.length - 1); have e2 := dig_at hv (v.length - 2)
   refine Ok.gd (by rw [inR_nat]; simp; omega) (Ok.gd (by rw [inR_nat]; simp; omega) ?_)
   rw [wrapU64_in (n := v.getD (v.length - 1) 0) (by omega) (by omega), wrapU64_in (n := v.getD (v.length - 2) 0) (by omega) (by omega), wrapU64_in (n := u.getD (j + v.length - 2) 0) (by omega) (by omega), wrapU64_in (n := u.getD (j + v.length - 1) 0) (by omega) (by omega), wrapU64_in (n := u.getD (j + v.length) 0) (by omega) (by omega),
    wrapU64_in (n := u.getD (j + v.length) 0 * 1000000000) (by omega) (by omega), wrapU64_in (n := u.getD (j + v.length) 0 * 1000000000 + u.getD (j + v.length - 1) 0) (by omega) (by omega)]
   refine Ok.gd (by rw [decide_eq_false (by omega)]; rfl) ?_
   have etop : u.getD (j + v.length) 0 * 1000000000 + u.getD (j + v.length - 1) 0 = u.getD (j + v.length - 1) 0 + 1000000000 * u.getD (j + v.length) 0 := by omega
   rw [etop, (td_v (by omega)).1, (td_v (by omega)).2, wrapU64_in (n := _ / _) (Int.ediv_nonneg (by omega) (by omega)) (Int.le_trans (Int.ediv_le_self _ (by omega)) (by omega))]
   refine Ok.bd (guess_ok hn kn rfl rfl (by omega) (by omega)) fun g hg => ?_
   obtain ⟨g0, g1, g2, g3⟩ := hg
   refine Ok.bd (sub_ok hn hv h3 ⟨g0, g1⟩ lv2 (by omega) (by omega)) ?_
   rintro ⟨u1, bo, ca⟩ ⟨s1, s2, s3, s4, s5, s6, s7⟩
   simp only at s1 s2 s3 s4 s5 s6 s7
   dsimp only
   refine Ok.gd (by rw [inR_nat]; simp; omega) ?_
   have s5' := s5 (j + v.length) (by omega)
   rw [gt_int, s5', wrap64_in (n := u.getD (j + v.length) 0) (by omega) (by omega), wrap64_in (n := u.getD (j + v.length) 0 - bo) (by omega) (by omega), wrap64_in (n := ca) (by omega) (by omega), wrap64_in (n := u.getD (j + v.length) 0 - bo - ca) (by omega) (by omega), Int.toNat_natCast, Int.toNat_natCast]
   have hzero : ∀ t, j + v.length + 1 ≤ t → u.getD t 0 = 0 := fun t ht => zero_of h3 (t := j + 1 + v.length) (by
    have := vl_drop_small (dig_drop h3 (j + 1)) (k := v.length) (Int.lt_trans h7 (vl_lt hv))
    rw [List.drop_drop] at this; exact this) t (by omega)
   have hW := vl_nonneg (dig_drop h3 j)
   have last : ∀ (z : List Int) (d : Int), z.length = u0.length → Dig z → (0 ≤ d ∧ d < 1000000000) → vl z = vl u - pB j * (d * vl v) → vl (z.drop j) < vl v → Ok (again (q.set j d, z, (((j : Nat) : Int) - 1))) (LongR v u0 m) := by
    intro z d hz1 hz2 hd hz3 hz4
    refine ih _ ⟨j, rfl, by omega, hz1, hz2, by simpa using h4, dig_set h5 hd, ?_, hz4, ?_⟩ (by simp)
    · intro i hi
      simp only
      rw [at_set_ne (by omega)]
      exact h6 i (by omega)
    · simp only
      rw [vl_set (by omega), h6 j (by omega), hz3]
      grind
   have hw64 : wrapF .i64 ((j : Int) - 1) = (j : Int) - 1 := wrap64_in (by omega) (by omega)
   refine Ok.cd (fun h => ?_) (fun h => ?_)
   · have hneg := of_decide_eq_true h
     rw [wrap64_in (n := u.getD (j + v.length) 0 - bo - ca + 1000000000) (by omega) (by omega), wrapU32_in (n := u.getD (j + v.length) 0 - bo - ca + 1000000000) (by omega) (by omega)]
     obtain ⟨z2, hz2⟩ : ∃ z2, u1.set (j + v.length) (u.getD (j + v.length) 0 - bo - ca + 1000000000) = z2 := ⟨_, rfl⟩
     rw [hz2]
     have l2 : z2.length = u0.length := by rw [← hz2]; simp; omega
     have dz2 : Dig z2 := by rw [← hz2]; exact dig_set s2 (by omega)
     have vz2 : vl z2 = vl u + pB j * (pB (v.length + 1) - g * vl v) := by
      rw [← hz2, vl_set (by omega), s7, s5', pB_add j v.length, pB_succ v.length]; grind
     have kz2 : vk z2 j = vk u j := by rw [← hz2, vk_set_ge (by omega)]; exact s6
     have zz2 : ∀ t, j + v.length + 1 ≤ t → z2.getD t 0 = 0 := fun t ht => by rw [← hz2, at_set_ne (by omega), s5 t (by omega)]; exact hzero t ht
     have w2 := win_eq kz2 vz2
     have w2' := win dz2 zz2
     have hgW : vl (u.drop j) < g * vl v := by omega
     have hg1 : 1 ≤ g := by
      by_cases hh : g = 0
      · rw [hh] at hgW; omega
      · omega
     have hg3 := g3 hg1
     refine Ok.bd (add_ok hn hv dz2 lv2 (by omega) (by omega)) ?_
     rintro ⟨u3, c⟩ ⟨a1, a2, a3, a4, a5, a6⟩
     simp only at a1 a2 a3 a4 a5 a6
     dsimp only
     refine Ok.gd (by rw [inR_nat]; simp; omega) (Ok.gd (by rw [inR_nat]; simp; omega) ?_)
     have a4' := a4 (j + v.length) (by omega)
     have z2v : z2.getD (j + v.length) 0 = u.getD (j + v.length) 0 - bo - ca + 1000000000 := by rw [← hz2, at_set (by omega)]
     rw [gt_int, wrapU64_in (n := g - 1) (by omega) (by omega), wrapU32_in (n := g - 1) (by omega) (by omega), wrapU32_in (n := u3.getD (j + v.length) 0 + c) (by omega) (by omega), (td_v (by omega)).2, hw64]
     obtain ⟨o, ho⟩ : ∃ o, (u3.getD (j + v.length) 0 + c) / 1000000000 = o := ⟨_, rfl⟩
     have hmod : (u3.getD (j + v.length) 0 + c) % 1000000000 = u3.getD (j + v.length) 0 + c - 1000000000 * o := by omega
     have ho2 : o = 0 ∨ o = 1 := by omega
     obtain ⟨z4, hz4⟩ : ∃ z4, u3.set (j + v.length) ((u3.getD (j + v.length) 0 + c) % 1000000000) = z4 := ⟨_, rfl⟩
     rw [hz4]
     have l4 : z4.length = u0.length := by rw [← hz4]; simp; omega
     have dz4 : Dig z4 := by rw [← hz4]; exact dig_set a2 (by omega)
     have vz4 : vl z4 = vl u + pB j * (pB (v.length + 1) * (1 - o) - (g - 1) * vl v) := by
      rw [← hz4, vl_set (by omega), a6, vz2, hmod, pB_add j v.length, pB_succ v.length]; grind
     have kz4 : vk z4 j = vk u j := by rw [← hz4, vk_set_ge (by omega)]; exact a5.trans kz2
     have zz4 : ∀ t, j + v.length + 1 ≤ t → z4.getD t 0 = 0 := fun t ht => by rw [← hz4, at_set_ne (by omega), a4 t (by omega)]; exact zz2 t ht
     have w4 := win_eq kz4 vz4
     have w4' := win dz4 zz4
     have ho3 : o = 1 := by
      rcases ho2 with ho2 | ho2
      · rw [ho2] at w4; omega
      · exact ho2
     rw [ho3] at w4 vz4
     have eg : (g - 1) * vl v = g * vl v - vl v := by grind
     exact last z4 (g - 1) l4 dz4 (by omega) (by rw [vz4]; grind) (by omega)
   · have hpos := of_decide_eq_false h
     rw [wrapU32_in (n := u.getD (j + v.length) 0 - bo - ca) (by omega) (by omega), wrapU32_in (n := g) (by omega) (by omega), hw64]
     refine Ok.gd (by rw [inR_nat]; simp; omega) ?_
     obtain ⟨z2, hz2⟩ : ∃ z2, u1.set (j + v.length) (u.getD (j + v.length) 0 - bo - ca) = z2 := ⟨_, rfl⟩
     rw [hz2]
     have l2 : z2.length = u0.length := by rw [← hz2]; simp; omega
     have dz2 : Dig z2 := by rw [← hz2]; exact dig_set s2 (by omega)
     have vz2 : vl z2 = vl u - pB j * (g * vl v) := by
      rw [← hz2, vl_set (by omega), s7, s5', pB_add j v.length]; grind
     have kz2 : vk z2 j = vk u j := by rw [← hz2, vk_set_ge (by omega)]; exact s6
     have w2 := win_eq (D := -(g * vl v)) kz2 (by rw [vz2]; grind)
     have eg : (g + 1) * vl v = g * vl v + vl v := by grind
     exact last z2 g l2 dz2 ⟨g0, g1⟩ vz2 (by omega)
 · have hk := of_decide_eq_false h
   obtain rfl : k = 0 := by omega
   exact ok_some.2 ⟨h5, h3, h4, h2, by simpa using h7, h8⟩
end Go.L

