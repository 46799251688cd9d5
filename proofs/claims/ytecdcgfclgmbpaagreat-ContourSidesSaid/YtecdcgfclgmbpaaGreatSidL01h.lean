import Derived.Test.YtecdcgfclgmbpaaGreatSidL01k
set_option linter.all false
namespace Go.L
open Go Go.Eng
theorem wc {k : Nat} (h : 1 < k) (h2 : k <= 4000000000) : G1 ((k : Int) - 2) = ((k - 2 : Nat) : Int) := by rw [wrap64_in (by omega) (by omega)]; omega
theorem tu {l : List Int} {k j : Nat} {x : Int} (h : j <= k) : vk (l.set k x) j = vk l j := by unfold vk; rw [List.take_set_of_le h]
def C4 (v u0 : List Int) (m : Nat) (r : List Int × List Int) : Prop := Dig r.1 /\ Dig r.2 /\ r.1.length = m /\ r.2.length = u0.length /\ vl r.2 < vl v /\ vl r.2 + vl r.1 * vl v = vl u0
theorem DY {n : Nat} (hn : 1000 <= n) {v u0 : List Int} {m : Nat} (hv : Dig v) (hv1 : 500000000 <= v.getD (v.length - 1) 0) (lv : 2 <= v.length) (lv2 : v.length <= 400) (hu : Dig u0) (lu : u0.length = v.length + m) (lu2 : u0.length <= 900) (h0 : vl (u0.drop m) < vl v) {j0 : Int} (hj0 : j0 = (m : Int) - 1) :
  Ok (aN (α := List Int × List Int × Int) (β := List Int × List Int) n (fun again86 (q_15, u_16, j_17) => (
   cdO (decide (j_17 >= 0)) (
    bdO (fB n u_16 (G1 (j_17 + (v.length : Int)))) fun v88 => (
    gdO (inR (G1 ((G1 (j_17 + (v.length : Int))) - 1)) u_16.length) (
    gdO (inR (G1 ((v.length : Int) - 1)) v.length) (
    gdO (!decide (aa .u64 (gt v (G1 ((v.length : Int) - 1))) = 0)) (
    bdO (aN (α := Int × Int) (β := Int) n (fun again102 (guess_93, rest_94) => (
     cdO (decide (guess_93 >= 1000000000)) (
      cdO (decide ((aa .u64 (rest_94 + (aa .u64 (gt v (G1 ((v.length : Int) - 1)))))) >= 1000000000)) (
       some (aa .u64 (guess_93 - 1))
      ) (
       again102 (aa .u64 (guess_93 - 1), aa .u64 (rest_94 + (aa .u64 (gt v (G1 ((v.length : Int) - 1))))))
      )
     ) (
      gdO (inR (G1 ((v.length : Int) - 2)) v.length) (
      gdO (inR (G1 ((G1 (j_17 + (v.length : Int))) - 2)) u_16.length) (
      cdO (decide ((aa .u64 (guess_93 * (aa .u64 (gt v (G1 ((v.length : Int) - 2)))))) > (aa .u64 ((aa .u64 (rest_94 * 1000000000)) + (aa .u64 (gt u_16 (G1 ((G1 (j_17 + (v.length : Int))) - 2)))))))) (
       cdO (decide ((aa .u64 (rest_94 + (aa .u64 (gt v (G1 ((v.length : Int) - 1)))))) >= 1000000000)) (
        some (aa .u64 (guess_93 - 1))
       ) (
        again102 (aa .u64 (guess_93 - 1), aa .u64 (rest_94 + (aa .u64 (gt v (G1 ((v.length : Int) - 1))))))
       )
      ) (
       some (guess_93)
      )
      )
      )
     )
    )) (aa .u64 ((aa .u64 ((aa .u64 ((aa .u64 v88) * 1000000000)) + (aa .u64 (gt u_16 (G1 ((G1 (j_17 + (v.length : Int))) - 1)))))).tdiv (aa .u64 (gt v (G1 ((v.length : Int) - 1))))), (aa .u64 ((aa .u64 ((aa .u64 v88) * 1000000000)) + (aa .u64 (gt u_16 (G1 ((G1 (j_17 + (v.length : Int))) - 1)))))).tmod (aa .u64 (gt v (G1 ((v.length : Int) - 1)))))) fun guess_101 => (
     bdO (aN (α := List Int × Int × Int × Int) (β := List Int × Int × Int) n (fun again123 (u_112, borrow_113, carry_114, x_115) => (
      cdO (decide (x_115 < (v.length : Int))) (
       gdO (inR x_115 v.length) (
       gdO (inR (G1 (x_115 + j_17)) u_112.length) (
       cdO (decide ((G1 ((G1 ((G1 (gt u_112 (G1 (x_115 + j_17)))) - borrow_113)) - (G1 ((aa .u64 ((aa .u64 (guess_101 * (aa .u64 (gt v x_115)))) + carry_114)).tmod 1000000000)))) < 0)) (
        again123 (u_112.set (G1 (x_115 + j_17)).toNat (aa .u32 (G1 ((G1 ((G1 ((G1 (gt u_112 (G1 (x_115 + j_17)))) - borrow_113)) - (G1 ((aa .u64 ((aa .u64 (guess_101 * (aa .u64 (gt v x_115)))) + carry_114)).tmod 1000000000)))) + 1000000000))), 1, aa .u64 ((aa .u64 ((aa .u64 (guess_101 * (aa .u64 (gt v x_115)))) + carry_114)).tdiv 1000000000), G1 (x_115 + 1))
       ) (
        again123 (u_112.set (G1 (x_115 + j_17)).toNat (aa .u32 (G1 ((G1 ((G1 (gt u_112 (G1 (x_115 + j_17)))) - borrow_113)) - (G1 ((aa .u64 ((aa .u64 (guess_101 * (aa .u64 (gt v x_115)))) + carry_114)).tmod 1000000000))))), 0, aa .u64 ((aa .u64 ((aa .u64 (guess_101 * (aa .u64 (gt v x_115)))) + carry_114)).tdiv 1000000000), G1 (x_115 + 1))
       )
       )
       )
      ) (
       some ((u_112, borrow_113, carry_114))
      )
     )) (u_16, 0, 0, 0)) fun o128 => (
      match o128 with
      | (u_120, borrow_121, carry_122) => (
       gdO (inR (G1 (j_17 + (v.length : Int))) u_120.length) (
       cdO (decide ((G1 ((G1 ((G1 (gt u_120 (G1 (j_17 + (v.length : Int))))) - borrow_121)) - (G1 carry_122))) < 0)) (
        bdO (aN (α := List Int × Int × Int) (β := List Int × Int) n (fun again142 (u_133, c_134, x_135) => (
         cdO (decide (x_135 < (v.length : Int))) (
          gdO (inR (G1 (x_135 + j_17)) u_133.length) (
          gdO (inR x_135 v.length) (
          cdO (decide ((aa .u32 ((aa .u32 ((gt u_133 (G1 (x_135 + j_17))) + (gt v x_135))) + c_134)) >= 1000000000)) (
           again142 (u_133.set (G1 (x_135 + j_17)).toNat (aa .u32 ((aa .u32 ((aa .u32 ((gt u_133 (G1 (x_135 + j_17))) + (gt v x_135))) + c_134)) - 1000000000)), 1, G1 (x_135 + 1))
          ) (
           again142 (u_133.set (G1 (x_135 + j_17)).toNat (aa .u32 ((aa .u32 ((gt u_133 (G1 (x_135 + j_17))) + (gt v x_135))) + c_134)), 0, G1 (x_135 + 1))
          )
          )
          )
         ) (
          some ((u_133, c_134))
         )
        )) (u_120.set (G1 (j_17 + (v.length : Int))).toNat (aa .u32 (G1 ((G1 ((G1 ((G1 (gt u_120 (G1 (j_17 + (v.length : Int))))) - borrow_121)) - (G1 carry_122))) + 1000000000))), 0, 0)) fun o147 => (
         match o147 with
         | (u_140, c_141) => (
          gdO (inR (G1 (j_17 + (v.length : Int))) u_140.length) (
          gdO (inR j_17 q_15.length) (
          again86 (q_15.set j_17.toNat (aa .u32 (aa .u64 (guess_101 - 1))), u_140.set (G1 (j_17 + (v.length : Int))).toNat ((aa .u32 ((gt u_140 (G1 (j_17 + (v.length : Int)))) + c_141)).tmod 1000000000), G1 (j_17 - 1))
          )
          )
         ))
       ) (
        gdO (inR j_17 q_15.length) (
        again86 (q_15.set j_17.toNat (aa .u32 guess_101), u_120.set (G1 (j_17 + (v.length : Int))).toNat (aa .u32 (G1 ((G1 ((G1 (gt u_120 (G1 (j_17 + (v.length : Int))))) - borrow_121)) - (G1 carry_122)))), G1 (j_17 - 1))
        )
       )
       )
      ))
    )
    )
    )
    )
    )
   ) (
    some ((q_15, u_16))
   )
  )) (List.replicate m (0 : Int), u0, j0)) (C4 v u0 m) := by
 subst hj0
 have hV := bL hv
 refine gE (fun x : List Int × List Int × Int => ∃ k : Nat, x.2.2 = (k : Int) - 1 /\ k <= m /\ x.2.1.length = u0.length /\ Dig x.2.1 /\ x.1.length = m /\ Dig x.1 /\ (∀ i, i < k -> x.1.getD i 0 = 0) /\ vl (x.2.1.drop k) < vl v /\ vl x.2.1 + vl x.1 * vl v = vl u0) (fun x => (x.2.2 + 1).toNat) ?_ n _
  ⟨m, rfl, Nat.le_refl _, rfl, hu, by simp, uk _, fun i _ => C3, h0, by simp [z6]⟩ (by simp; omega)
 rintro again ⟨q, u, x⟩ ⟨k, hx, h1, h2, h3, h4, h5, h6, h7, h8⟩ ih
 simp only at hx h2 h3 h4 h5 h6 h7 h8
 subst hx
 dsimp only
 refine Ok.cd (fun h => ?_) (fun h => ?_)
 · have hk := dcT h
   obtain ⟨j, rfl⟩ : ∃ j, k = j + 1 := ⟨k - 1, by omega⟩
   have ej : (((j + 1 : Nat) : Int) - 1) = (j : Int) := by omega
   rw [ej]
   rw [qi (k := v.length) (by omega) (by omega), pK (k := j + v.length) (by omega) (by omega), wc (k := j + v.length) (by omega) (by omega), pK (k := v.length) (by omega) (by omega), wc (k := v.length) (by omega) (by omega), A1]
   rw [iw (l := v) (k := v.length - 1), iw (l := v) (k := v.length - 2), iw (l := u) (k := j + v.length - 1), iw (l := u) (k := j + v.length - 2)]
   refine Ok.bde rfl ?_
   have hlt : vl (u.drop j) < 1000000000 * vl v := by
    have := kX u j; have := fi h3 j; omega
   have kn := Fy (X := u.drop j) lv (iV h3 j) hv rfl hv1 hlt
   rw [n4, n4, n4, (by omega : j + (v.length - 2) = j + v.length - 2), (by omega : j + (v.length - 1) = j + v.length - 1)] at kn
   have d0 := fi h3 (j + v.length - 2); have d1 := fi h3 (j + v.length - 1); have d2 := fi h3 (j + v.length)
   have e1 := fi hv (v.length - 1); have e2 := fi hv (v.length - 2)
   refine Ok.gd (by rw [b9]; simp; omega) (Ok.gd (by rw [b9]; simp; omega) ?_)
   rw [aX (n := v.getD (v.length - 1) 0) (by omega) (by omega), aX (n := v.getD (v.length - 2) 0) (by omega) (by omega), aX (n := u.getD (j + v.length - 2) 0) (by omega) (by omega), aX (n := u.getD (j + v.length - 1) 0) (by omega) (by omega), aX (n := u.getD (j + v.length) 0) (by omega) (by omega),
    aX (n := u.getD (j + v.length) 0 * 1000000000) (by omega) (by omega), aX (n := u.getD (j + v.length) 0 * 1000000000 + u.getD (j + v.length - 1) 0) (by omega) (by omega)]
   refine Ok.gd (by rw [decide_eq_false (by omega)]; rfl) ?_
   have etop : u.getD (j + v.length) 0 * 1000000000 + u.getD (j + v.length - 1) 0 = u.getD (j + v.length - 1) 0 + 1000000000 * u.getD (j + v.length) 0 := by omega
   rw [etop, (vB (by omega)).1, (vB (by omega)).2, aX (n := _ / _) (Int.ediv_nonneg (by omega) (by omega)) (Int.le_trans (Int.ediv_le_self _ (by omega)) (by omega))]
   refine Ok.bd (CM hn kn rfl rfl (by omega) (by omega)) fun g hg => ?_
   obtain ⟨g0, g1, g2, g3⟩ := hg
   refine Ok.bd (EF hn hv h3 ⟨g0, g1⟩ lv2 (by omega) (by omega)) ?_
   rintro ⟨u1, bo, ca⟩ ⟨s1, s2, s3, s4, s5, s6, s7⟩
   simp only at s1 s2 s3 s4 s5 s6 s7
   dsimp only
   refine Ok.gd (by rw [b9]; simp; omega) ?_
   have s5' := s5 (j + v.length) (by omega)
   rw [iw, s5', wrap64_in (n := u.getD (j + v.length) 0) (by omega) (by omega), wrap64_in (n := u.getD (j + v.length) 0 - bo) (by omega) (by omega), wrap64_in (n := ca) (by omega) (by omega), wrap64_in (n := u.getD (j + v.length) 0 - bo - ca) (by omega) (by omega), Int.toNat_natCast, Int.toNat_natCast]
   have hzero : ∀ t, j + v.length + 1 <= t -> u.getD t 0 = 0 := fun t ht => Aj h3 (t := j + 1 + v.length) (by
    have := nj (iV h3 (j + 1)) (k := v.length) (Int.lt_trans h7 (jj hv))
    rw [List.drop_drop] at this; exact this) t (by omega)
   have hW := bL (iV h3 j)
   have last : ∀ (z : List Int) (d : Int), z.length = u0.length -> Dig z -> (0 <= d /\ d < 1000000000) -> vl z = vl u - pB j * (d * vl v) -> vl (z.drop j) < vl v -> Ok (again (q.set j d, z, (((j : Nat) : Int) - 1))) (C4 v u0 m) := by
    intro z d hz1 hz2 hd hz3 hz4
    refine ih _ ⟨j, rfl, by omega, hz1, hz2, by simpa using h4, kQ h5 hd, ?_, hz4, ?_⟩ (by simp)
    · intro i hi
      simp only
      rw [kH (by omega)]
      exact h6 i (by omega)
    · simp only
      rw [pg (by omega), h6 j (by omega), hz3]
      grind
   have hw64 : G1 ((j : Int) - 1) = (j : Int) - 1 := wrap64_in (by omega) (by omega)
   refine Ok.cd (fun h => ?_) (fun h => ?_)
   · have hneg := dcT h
     rw [wrap64_in (n := u.getD (j + v.length) 0 - bo - ca + 1000000000) (by omega) (by omega), bU (n := u.getD (j + v.length) 0 - bo - ca + 1000000000) (by omega) (by omega)]
     obtain ⟨z2, hz2⟩ : ∃ z2, u1.set (j + v.length) (u.getD (j + v.length) 0 - bo - ca + 1000000000) = z2 := ⟨_, rfl⟩
     rw [hz2]
     have l2 : z2.length = u0.length := by rw [<- hz2]; simp; omega
     have dz2 : Dig z2 := by rw [<- hz2]; exact kQ s2 (by omega)
     have vz2 : vl z2 = vl u + pB j * (pB (v.length + 1) - g * vl v) := by
      rw [<- hz2, pg (by omega), s7, s5', lR j v.length, eK v.length]; grind
     have kz2 : vk z2 j = vk u j := by rw [<- hz2, tu (by omega)]; exact s6
     have zz2 : ∀ t, j + v.length + 1 <= t -> z2.getD t 0 = 0 := fun t ht => by rw [<- hz2, kH (by omega), s5 t (by omega)]; exact hzero t ht
     have w2 := zH kz2 vz2
     have w2' := win dz2 zz2
     have hgW : vl (u.drop j) < g * vl v := by omega
     have hg1 : 1 <= g := by
      by_cases hh : g = 0
      · rw [hh] at hgW; omega
      · omega
     have hg3 := g3 hg1
     refine Ok.bd (E5 hn hv dz2 lv2 (by omega) (by omega)) ?_
     rintro ⟨u3, c⟩ ⟨a1, a2, a3, a4, a5, a6⟩
     simp only at a1 a2 a3 a4 a5 a6
     dsimp only
     refine Ok.gd (by rw [b9]; simp; omega) (Ok.gd (by rw [b9]; simp; omega) ?_)
     have a4' := a4 (j + v.length) (by omega)
     have z2v : z2.getD (j + v.length) 0 = u.getD (j + v.length) 0 - bo - ca + 1000000000 := by rw [<- hz2, Db (by omega)]
     rw [iw, aX (n := g - 1) (by omega) (by omega), bU (n := g - 1) (by omega) (by omega), bU (n := u3.getD (j + v.length) 0 + c) (by omega) (by omega), (vB (by omega)).2, hw64]
     obtain ⟨o, ho⟩ : ∃ o, (u3.getD (j + v.length) 0 + c) / 1000000000 = o := ⟨_, rfl⟩
     have hmod : (u3.getD (j + v.length) 0 + c) % 1000000000 = u3.getD (j + v.length) 0 + c - 1000000000 * o := by omega
     have ho2 : o = 0 \/ o = 1 := by omega
     obtain ⟨z4, hz4⟩ : ∃ z4, u3.set (j + v.length) ((u3.getD (j + v.length) 0 + c) % 1000000000) = z4 := ⟨_, rfl⟩
     rw [hz4]
     have l4 : z4.length = u0.length := by rw [<- hz4]; simp; omega
     have dz4 : Dig z4 := by rw [<- hz4]; exact kQ a2 (by omega)
     have vz4 : vl z4 = vl u + pB j * (pB (v.length + 1) * (1 - o) - (g - 1) * vl v) := by
      rw [<- hz4, pg (by omega), a6, vz2, hmod, lR j v.length, eK v.length]; grind
     have kz4 : vk z4 j = vk u j := by rw [<- hz4, tu (by omega)]; exact a5.trans kz2
     have zz4 : ∀ t, j + v.length + 1 <= t -> z4.getD t 0 = 0 := fun t ht => by rw [<- hz4, kH (by omega), a4 t (by omega)]; exact zz2 t ht
     have w4 := zH kz4 vz4
     have w4' := win dz4 zz4
     have ho3 : o = 1 := by
      rcases ho2 with ho2 | ho2
      · rw [ho2] at w4; omega
      · exact ho2
     rw [ho3] at w4 vz4
     have eg : (g - 1) * vl v = g * vl v - vl v := by grind
     exact last z4 (g - 1) l4 dz4 (by omega) (by rw [vz4]; grind) (by omega)
   · have hpos := dcF h
     rw [bU (n := u.getD (j + v.length) 0 - bo - ca) (by omega) (by omega), bU (n := g) (by omega) (by omega), hw64]
     refine Ok.gd (by rw [b9]; simp; omega) ?_
     obtain ⟨z2, hz2⟩ : ∃ z2, u1.set (j + v.length) (u.getD (j + v.length) 0 - bo - ca) = z2 := ⟨_, rfl⟩
     rw [hz2]
     have l2 : z2.length = u0.length := by rw [<- hz2]; simp; omega
     have dz2 : Dig z2 := by rw [<- hz2]; exact kQ s2 (by omega)
     have vz2 : vl z2 = vl u - pB j * (g * vl v) := by
      rw [<- hz2, pg (by omega), s7, s5', lR j v.length]; grind
     have kz2 : vk z2 j = vk u j := by rw [<- hz2, tu (by omega)]; exact s6
     have w2 := zH (D := -(g * vl v)) kz2 (by rw [vz2]; grind)
     have eg : (g + 1) * vl v = g * vl v + vl v := by grind
     exact last z2 g l2 dz2 ⟨g0, g1⟩ vz2 (by omega)
 · have hk := dcF h
   obtain rfl : k = 0 := by omega
   exact aC.2 ⟨h5, h3, h4, h2, by simpa using h7, h8⟩
end Go.L


set_option linter.all false
namespace Go.L
open Go Go.Eng
theorem wq {d : Int} (hd : 0 < d) (hd2 : d <= 1000000000) : ∀ {l : List Int}, Dig l -> Dig (bX d l).1 /\ (bX d l).1.length = l.length /\ (0 <= (bX d l).2 /\ (bX d l).2 < d) /\ vl (bX d l).1 * d + (bX d l).2 = vl l
 | [], _ => ⟨ss, rfl, ⟨Int.le_refl _, hd⟩, by show 0 * d + 0 = 0; omega⟩
 | g :: l, h => by
  have h' := gW.1 h
  obtain ⟨h1, h2, h3, h4⟩ := wq hd hd2 h'.2
  unfold bX
  rcases hqr : bX d l with ⟨q, r⟩
  simp only [hqr] at h1 h2 h3 h4 ⊢
  have m0 : r * 1000000000 <= (d - 1) * 1000000000 := by omega
  rw [aX (n := r * 1000000000) (by omega) (by omega), aX (n := g) (by omega) (by omega), aX (n := r * 1000000000 + g) (by omega) (by omega)]
  generalize hs : r * 1000000000 + g = s
  have hs0 : 0 <= s := by omega
  rw [(vB hs0).1, (vB hs0).2]
  have hm := Int.emod_add_mul_ediv s d
  have hm1 := Int.emod_nonneg s (by omega : d ≠ 0)
  have hm2 := Int.emod_lt_of_pos s hd
  have hq0 : 0 <= s / d := Int.ediv_nonneg hs0 (by omega)
  have hq1 : s / d < 1000000000 := (Int.ediv_lt_iff_lt_mul hd).2 (by omega)
  rw [aX hq0 (by omega), bU hq0 (by omega)]
  refine ⟨gW.2 ⟨⟨hq0, hq1⟩, h1⟩, by simp [h2], ⟨hm1, hm2⟩, ?_⟩
  show (s / d + 1000000000 * vl q) * d + s % d = g + 1000000000 * vl l
  rw [<- h4]
  grind
theorem x9 : ∀ {l : List Int}, Dig l -> Can (nD l) /\ vl (nD l) = vl l
 | [], _ => ⟨trivial, rfl⟩
 | d :: l, h => by
  have h' := gW.1 h
  obtain ⟨h1, h2⟩ := x9 h'.2
  unfold nD
  show _ /\ _ = d + 1000000000 * vl l
  rw [<- h2]
  cases ht : nD l with
  | nil =>
   simp only
   split
   · rename_i hd
     have : d = 0 := by simpa using hd
     subst this; exact ⟨trivial, rfl⟩
   · rename_i hd
     have : d ≠ 0 := by simpa using hd
     exact ⟨⟨h'.1, fun _ => this, trivial⟩, rfl⟩
  | cons e r =>
   rw [ht] at h1
   exact ⟨⟨h'.1, fun h => by simp at h, h1⟩, rfl⟩
theorem sf {n : Nat} {a : List Int} {d : Int} (ha : Dig a) (la : a.length <= 900) (hd : 0 < d) (hd2 : d <= 1000000000) : Ok (eO n a d) fun r => Can r.1 /\ (0 <= r.2 /\ r.2 < d) /\ vl r.1 * d + r.2 = vl a := by
 unfold eO
 obtain ⟨h1, h2, h3, h4⟩ := wq hd hd2 ha
 obtain ⟨t1, t2⟩ := x9 h1
 refine Ok.gd (by simp; omega) (Ok.gd (by simp; omega) (Ok.gd (by simp; omega) (aC.2 ?_)))
 simp only
 rw [bU h3.1 (by omega), t2]
 exact ⟨t1, h3, h4⟩
theorem u6 (n : Nat) (a b : List Int) : gQ n a b = ib n a b := rfl
theorem AJ {b : List Int} (hb : Can b) (lb : 1 <= b.length) : 1 <= b.getD (b.length - 1) 0 /\ b.getD (b.length - 1) 0 < 1000000000 /\ pB (b.length - 1) * b.getD (b.length - 1) 0 <= vl b /\ vl b < pB (b.length - 1) * (b.getD (b.length - 1) 0 + 1) := by
 have h1 := uI hb (by rintro rfl; simp at lb)
 have h2 := fi hb.dig (b.length - 1)
 have e := iK b (b.length - 1)
 have e2 := kX b (b.length - 1)
 rw [List.drop_of_length_le (by omega : b.length <= b.length - 1 + 1)] at e2
 have e3 : vl ([] : List Int) = 0 := rfl
 have e4 : vl (b.drop (b.length - 1)) = b.getD (b.length - 1) 0 := by omega
 rw [e4] at e
 have h3 := nK hb.dig (b.length - 1)
 have h4 := Bg hb.dig (b.length - 1)
 refine ⟨by omega, h2.2, by omega, ?_⟩
 rw [Int.mul_add]; omega
theorem DU {n : Nat} {a b : List Int} (hn : 1000 <= n) (ha : Can a) (hb : Can b) (lb : 2 <= b.length) (la : a.length <= 300) (lb2 : b.length <= 300) (hle : vl b <= vl a) : Ok (gF n a b) fun r => Can r.1 /\ Can r.2 /\ vl r.2 < vl b /\ vl r.1 * vl b + vl r.2 = vl a := by
 unfold gF
 obtain ⟨t1, t2, t3, t4⟩ := AJ hb (by omega)
 rw [pK (k := b.length) (by omega) (by omega), iw]
 obtain ⟨t, ht⟩ : ∃ t, b.getD (b.length - 1) 0 = t := ⟨_, rfl⟩
 rw [ht] at t1 t2 t3 t4 ⊢
 rw [aX (n := t) (by omega) (by omega), aX (n := t + 1) (by omega) (by omega), (vB (by omega : (0 : Int) <= 1000000000)).1]
 obtain ⟨s, hs⟩ : ∃ s, (1000000000 : Int) / (t + 1) = s := ⟨_, rfl⟩
 obtain ⟨s1, s2, s3, s4⟩ := yX t1 t2 hs.symm
 rw [hs, aX (n := s) (by omega) (by omega), bU (n := s) (by omega) (by omega)]
 refine Ok.gd (by rw [b9]; simp; omega) (Ok.gd (by rw [decide_eq_false (by omega)]; rfl) ?_)
 have hds : Dig [s] := kP.2 (by omega)
 rw [u6, u6]
 refine Ok.bd (vo hn ha.dig hds (by omega) (by simp)) ?_
 rintro u ⟨u1, u2⟩
 refine Ok.bd (vo hn hb.dig hds (by omega) (by simp)) ?_
 rintro v ⟨v1, v2⟩
 rw [lQ] at u2 v2
 have hp := jI (b.length - 1)
 have ep : pB b.length = 1000000000 * pB (b.length - 1) := by rw [<- eK, (by omega : b.length - 1 + 1 = b.length)]
 have hvlt : vl v < pB b.length := by
  have : vl b * s <= (pB (b.length - 1) * (t + 1) - 1) * s := mrT (by omega) (by omega)
  have e : (pB (b.length - 1) * (t + 1) - 1) * s = pB (b.length - 1) * ((t + 1) * s) - s := by grind
  have : pB (b.length - 1) * ((t + 1) * s) <= pB (b.length - 1) * 1000000000 := mlT s4 (by omega)
  omega
 have hvge : 500000000 * pB (b.length - 1) <= vl v := by
  have h1 : (pB (b.length - 1) * t) * s <= vl b * s := mrT t3 (by omega)
  have e : (pB (b.length - 1) * t) * s = pB (b.length - 1) * (t * s) := by grind
  have h2 : pB (b.length - 1) * 500000000 <= pB (b.length - 1) * (t * s) := mlT s1 (by omega)
  omega
 have lv : v.length = b.length := by
  have h1 := oT v1 hvlt
  by_cases h : v.length = b.length
  · exact h
  · have h2 := jj v1.dig
    have h3 := jB (by omega : v.length <= b.length - 1)
    omega
 have hv1 : 500000000 <= v.getD (v.length - 1) 0 := by
  obtain ⟨c1, c2, c3, c4⟩ := AJ v1 (by omega)
  rw [lv] at c4 ⊢
  by_cases h : 500000000 <= v.getD (b.length - 1) 0
  · exact h
  · have : pB (b.length - 1) * (v.getD (b.length - 1) 0 + 1) <= pB (b.length - 1) * 500000000 := mlT (by omega) (by omega)
    omega
 have lu : u.length <= a.length + 1 := oT u1 (by
  have h1 := jj ha.dig; have h2 := bL ha.dig
  rw [u2, eK]
  have : vl a * s <= vl a * 1000000000 := mlT (by omega) h2
  omega)
 have luv : v.length <= u.length := by
  by_cases h : v.length <= u.length
  · exact h
  · have := fD u1.dig v1 (by omega)
    have : vl b * s <= vl a * s := mrT hle (by omega)
    omega
 have fin : ∀ (u0 : List Int) (m : Nat) (q r : List Int), vl u0 = vl u -> u0.length = v.length + m -> u0.length <= 900 -> C4 v u0 m (q, r) ->
   Ok (gdO (inS 0 (v.length : Int) r.length) (bdO (de n (r.take (v.length : Int).toNat)) fun v308 => bdO (eO n v308 s) fun v310 => bdO (de n q) fun v312 => some ((v312, v310.1)))) fun r => Can r.1 /\ Can r.2 /\ vl r.2 < vl b /\ vl r.1 * vl b + vl r.2 = vl a := by
  rintro u0 m q r e0 e1 e2 ⟨q1, q2, q3, q4, q5, q6⟩
  simp only at q1 q2 q3 q4 q5 q6
  refine Ok.gd (Ab.2 (by omega)) ?_
  rw [Int.toNat_natCast]
  have hz : ∀ k, v.length <= k -> r.getD k 0 = 0 := Aj q2 (nj q2 (Int.lt_trans q5 (jj v1.dig)))
  refine Ok.bd (qp hn (sJ q2 _) (by rw [List.length_take]; omega)) ?_
  rintro w ⟨w1, w2⟩
  rw [zA (by omega) hz] at w2
  have lw : w.length <= 900 := by
   have := oT w1 (k := v.length) (by rw [w2]; exact Int.lt_trans q5 (jj v1.dig)); omega
  refine Ok.bd (sf w1.dig lw (by omega) (by omega)) ?_
  rintro ⟨y, c⟩ ⟨y1, y2, y3⟩
  simp only at y1 y2 y3
  refine Ok.bd (qp hn q1 (by omega)) ?_
  rintro z ⟨z1, z2⟩
  refine aC.2 ⟨z1, y1, ?_, ?_⟩
  all_goals simp only
  ·
   have hmul : (vl y * s + c) + vl q * (vl b * s) = vl a * s := by rw [y3, w2, <- v2, <- u2, <- e0]; exact q6
   have hlt : vl y * s < vl b * s := by
    have : vl y * s + c < vl b * s := by rw [y3, w2, <- v2]; exact q5
    omega
   exact Int.lt_of_mul_lt_mul_right hlt (by omega)
  · have hmul : (vl y * s + c) + vl q * (vl b * s) = vl a * s := by rw [y3, w2, <- v2, <- u2, <- e0]; exact q6
    have e : c = (vl a - vl y - vl q * vl b) * s := by grind
    have hc0 : vl a - vl y - vl q * vl b = 0 := by
     by_cases h1 : vl a - vl y - vl q * vl b = 0
     · exact h1
     · exfalso
       by_cases h2 : 1 <= vl a - vl y - vl q * vl b
       · have : 1 * s <= (vl a - vl y - vl q * vl b) * s := mrT h2 (by omega)
         omega
       · have : (vl a - vl y - vl q * vl b) * s <= (-1) * s := mrT (by omega) (by omega)
         omega
    rw [z2]; omega
 have h500 : pB (v.length - 1) <= vl v := by rw [lv]; omega
 have top0 : ∀ (w : List Int) (m : Nat), Dig w -> w.length + 1 = v.length + m -> vl ((w ++ [0]).drop m) < vl v := by
  intro w m hw hl
  have e : (w ++ [0]).drop m = w.drop m ++ [0] := by rw [List.drop_append_of_le_length (by omega)]
  rw [e, pQ, lQ]
  have h1 := jj (iV hw m)
  rw [List.length_drop, (by omega : w.length - m = v.length - 1)] at h1
  omega
 refine Ok.gd (by simp; omega) (Ok.gd (by simp; omega) ?_)
 have d1 : Dig (u ++ [0]) := r9.2 ⟨u1.dig, kP.2 (by omega)⟩
 have e1 : vl (u ++ [0]) = vl u := by rw [pQ, lQ]; omega
 have l1 : (u ++ [(0 : Int)]).length = u.length + 1 := by simp
 have d2 : Dig ((u ++ [0]) ++ [0]) := r9.2 ⟨d1, kP.2 (by omega)⟩
 have e2 : vl ((u ++ [0]) ++ [0]) = vl u := by rw [pQ, lQ, e1]; omega
 have l2 : ((u ++ [(0 : Int)]) ++ [(0 : Int)]).length = u.length + 2 := by simp
 refine Ok.bd (R := fun w => Dig w /\ vl w = vl u /\ v.length <= w.length /\ w.length <= 900 /\ vl (w.drop (w.length - v.length)) < vl v) ?_ ?_
 · refine Ok.cd (fun h => ?_) (fun h => aC.2 ?_)
   · refine Ok.gd (by simp; omega) (Ok.gd (by simp; omega) (aC.2 ⟨d2, e2, by omega, by omega, ?_⟩))
     exact top0 _ _ d1 (by omega)
   · exact ⟨d1, e1, by omega, by omega, top0 _ _ u1.dig (by omega)⟩
 rintro w ⟨w1, w2, w3, w4, w5⟩
 have hw : G1 ((w.length : Int) - (v.length : Int)) = ((w.length - v.length : Nat) : Int) := by rw [wrap64_in (by omega) (by omega)]; omega
 rw [hw, Int.toNat_natCast]
 refine Ok.gd (by simp; try omega) (Ok.gd (by simp; try omega) (Ok.gd (by simp; try omega) ?_))
 refine Ok.bd (DY hn v1.dig hv1 (by omega) (by omega) w1 (m := w.length - v.length) (by omega) (by omega) w5 (by rw [wrap64_in (by omega) (by omega)])) ?_
 rintro ⟨q, r⟩ hqr
 exact fin _ _ q r w2 (by omega) (by omega) hqr
end Go.L

