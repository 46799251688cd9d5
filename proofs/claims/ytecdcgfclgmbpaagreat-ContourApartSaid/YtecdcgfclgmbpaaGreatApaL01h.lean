import Derived.Test.YtecdcgfclgmbpaaGreatApaL01k
set_option linter.all false
namespace Go.L
open Go Go.Eng
theorem w8 {k : Nat} (h : 1 < k) (h2 : k <= 4000000000) : IE ((k : Int) - 2) = ((k - 2 : Nat) : Int) := by rw [wrap64_in (by omega) (by omega)]; omega
theorem tN {l : List Int} {k j : Nat} {x : Int} (h : j <= k) : vk (l.set k x) j = vk l j := by unfold vk; rw [List.take_set_of_le h]
def DS (v j : List Int) (m : Nat) (r : List Int × List Int) : Prop := Dig r.1 /\ Dig r.2 /\ r.1.length = m /\ r.2.length = j.length /\ vl r.2 < vl v /\ vl r.2 + vl r.1 * vl v = vl j
theorem Fw {n : Nat} (hn : 1000 <= n) {v u0 : List Int} {m : Nat} (hv : Dig v) (e9 : 500000000 <= v.getD (v.length - 1) 0) (lv : 2 <= v.length) (c8 : v.length <= 400) (hu : Dig u0) (lu : u0.length = v.length + m) (j5 : u0.length <= 900) (h0 : vl (u0.drop m) < vl v) {j0 : Int} (g4 : j0 = (m : Int) - 1) :
  Ok (aP (α := List Int × List Int × Int) (β := List Int × List Int) n (fun b6 (b7, b0, C) => (
   cdO (decide (C >= 0)) (
    bdO (fJ n b0 (IE (C + (v.length : Int)))) fun c9 => (
    gdO (inR (IE ((IE (C + (v.length : Int))) - 1)) b0.length) (
    gdO (inR (IE ((v.length : Int) - 1)) v.length) (
    gdO (!decide (aa .u64 (gt v (IE ((v.length : Int) - 1))) = 0)) (
    bdO (aP (α := Int × Int) (β := Int) n (fun b1 (J, T) => (
     cdO (decide (J >= 1000000000)) (
      cdO (decide ((aa .u64 (T + (aa .u64 (gt v (IE ((v.length : Int) - 1)))))) >= 1000000000)) (
       some (aa .u64 (J - 1))
      ) (
       b1 (aa .u64 (J - 1), aa .u64 (T + (aa .u64 (gt v (IE ((v.length : Int) - 1))))))
      )
     ) (
      gdO (inR (IE ((v.length : Int) - 2)) v.length) (
      gdO (inR (IE ((IE (C + (v.length : Int))) - 2)) b0.length) (
      cdO (decide ((aa .u64 (J * (aa .u64 (gt v (IE ((v.length : Int) - 2)))))) > (aa .u64 ((aa .u64 (T * 1000000000)) + (aa .u64 (gt b0 (IE ((IE (C + (v.length : Int))) - 2)))))))) (
       cdO (decide ((aa .u64 (T + (aa .u64 (gt v (IE ((v.length : Int) - 1)))))) >= 1000000000)) (
        some (aa .u64 (J - 1))
       ) (
        b1 (aa .u64 (J - 1), aa .u64 (T + (aa .u64 (gt v (IE ((v.length : Int) - 1))))))
       )
      ) (
       some (J)
      )
      )
      )
     )
    )) (aa .u64 ((aa .u64 ((aa .u64 ((aa .u64 c9) * 1000000000)) + (aa .u64 (gt b0 (IE ((IE (C + (v.length : Int))) - 1)))))).tdiv (aa .u64 (gt v (IE ((v.length : Int) - 1))))), (aa .u64 ((aa .u64 ((aa .u64 c9) * 1000000000)) + (aa .u64 (gt b0 (IE ((IE (C + (v.length : Int))) - 1)))))).tmod (aa .u64 (gt v (IE ((v.length : Int) - 1)))))) fun E => (
     bdO (aP (α := List Int × Int × Int × Int) (β := List Int × Int × Int) n (fun b3 (Y, O, M, I) => (
      cdO (decide (I < (v.length : Int))) (
       gdO (inR I v.length) (
       gdO (inR (IE (I + C)) Y.length) (
       cdO (decide ((IE ((IE ((IE (gt Y (IE (I + C)))) - O)) - (IE ((aa .u64 ((aa .u64 (E * (aa .u64 (gt v I)))) + M)).tmod 1000000000)))) < 0)) (
        b3 (Y.set (IE (I + C)).toNat (aa .u32 (IE ((IE ((IE ((IE (gt Y (IE (I + C)))) - O)) - (IE ((aa .u64 ((aa .u64 (E * (aa .u64 (gt v I)))) + M)).tmod 1000000000)))) + 1000000000))), 1, aa .u64 ((aa .u64 ((aa .u64 (E * (aa .u64 (gt v I)))) + M)).tdiv 1000000000), IE (I + 1))
       ) (
        b3 (Y.set (IE (I + C)).toNat (aa .u32 (IE ((IE ((IE (gt Y (IE (I + C)))) - O)) - (IE ((aa .u64 ((aa .u64 (E * (aa .u64 (gt v I)))) + M)).tmod 1000000000))))), 0, aa .u64 ((aa .u64 ((aa .u64 (E * (aa .u64 (gt v I)))) + M)).tdiv 1000000000), IE (I + 1))
       )
       )
       )
      ) (
       some ((Y, O, M))
      )
     )) (b0, 0, 0, 0)) fun e3 => (
      match e3 with
      | (a9, U, a0) => (
       gdO (inR (IE (C + (v.length : Int))) a9.length) (
       cdO (decide ((IE ((IE ((IE (gt a9 (IE (C + (v.length : Int))))) - U)) - (IE a0))) < 0)) (
        bdO (aP (α := List Int × Int × Int) (β := List Int × Int) n (fun b4 (a7, b5, N) => (
         cdO (decide (N < (v.length : Int))) (
          gdO (inR (IE (N + C)) a7.length) (
          gdO (inR N v.length) (
          cdO (decide ((aa .u32 ((aa .u32 ((gt a7 (IE (N + C))) + (gt v N))) + b5)) >= 1000000000)) (
           b4 (a7.set (IE (N + C)).toNat (aa .u32 ((aa .u32 ((aa .u32 ((gt a7 (IE (N + C))) + (gt v N))) + b5)) - 1000000000)), 1, IE (N + 1))
          ) (
           b4 (a7.set (IE (N + C)).toNat (aa .u32 ((aa .u32 ((gt a7 (IE (N + C))) + (gt v N))) + b5)), 0, IE (N + 1))
          )
          )
          )
         ) (
          some ((a7, b5))
         )
        )) (a9.set (IE (C + (v.length : Int))).toNat (aa .u32 (IE ((IE ((IE ((IE (gt a9 (IE (C + (v.length : Int))))) - U)) - (IE a0))) + 1000000000))), 0, 0)) fun e4 => (
         match e4 with
         | (b9, c5) => (
          gdO (inR (IE (C + (v.length : Int))) b9.length) (
          gdO (inR C b7.length) (
          b6 (b7.set C.toNat (aa .u32 (aa .u64 (E - 1))), b9.set (IE (C + (v.length : Int))).toNat ((aa .u32 ((gt b9 (IE (C + (v.length : Int)))) + c5)).tmod 1000000000), IE (C - 1))
          )
          )
         ))
       ) (
        gdO (inR C b7.length) (
        b6 (b7.set C.toNat (aa .u32 E), a9.set (IE (C + (v.length : Int))).toNat (aa .u32 (IE ((IE ((IE (gt a9 (IE (C + (v.length : Int))))) - U)) - (IE a0)))), IE (C - 1))
        )
       )
       )
      ))
    )
    )
    )
    )
    )
   ) (
    some ((b7, b0))
   )
  )) (List.replicate m (0 : Int), u0, j0)) (DS v u0 m) := by
 subst g4
 have hV := aY hv
 refine dc (fun x : List Int × List Int × Int => ∃ k : Nat, x.2.2 = (k : Int) - 1 /\ k <= m /\ x.2.1.length = u0.length /\ Dig x.2.1 /\ x.1.length = m /\ Dig x.1 /\ (∀ i, i < k -> x.1.getD i 0 = 0) /\ vl (x.2.1.drop k) < vl v /\ vl x.2.1 + vl x.1 * vl v = vl u0) (fun x => (x.2.2 + 1).toNat) ?_ n _
  ⟨m, rfl, Nat.le_refl _, rfl, hu, by simp, oX _, fun i _ => ue, h0, by simp [tP]⟩ (by simp; omega)
 rintro again ⟨q, u, x⟩ ⟨k, hx, h1, h2, h3, h4, h5, h6, h7, h8⟩ ih
 simp only at hx h2 h3 h4 h5 h6 h7 h8
 subst hx
 dsimp only
 refine Ok.cd (fun h => ?_) (fun h => ?_)
 · have hk := dcT h
   obtain ⟨j, rfl⟩ : ∃ j, k = j + 1 := ⟨k - 1, by omega⟩
   have ej : (((j + 1 : Nat) : Int) - 1) = (j : Int) := by omega
   rw [ej]
   rw [lq (k := v.length) (by omega) (by omega), ku (k := j + v.length) (by omega) (by omega), w8 (k := j + v.length) (by omega) (by omega), ku (k := v.length) (by omega) (by omega), w8 (k := v.length) (by omega) (by omega), B1]
   rw [dy (l := v) (k := v.length - 1), dy (l := v) (k := v.length - 2), dy (l := u) (k := j + v.length - 1), dy (l := u) (k := j + v.length - 2)]
   refine Ok.bde rfl ?_
   have g5 : vl (u.drop j) < 1000000000 * vl v := by
    have := gj u j; have := cu h3 j; omega
   have kn := Hr (X := u.drop j) lv (gQ h3 j) hv rfl e9 g5
   rw [ow, ow, ow, (by omega : j + (v.length - 2) = j + v.length - 2), (by omega : j + (v.length - 1) = j + v.length - 1)] at kn
   have d0 := cu h3 (j + v.length - 2); have d1 := cu h3 (j + v.length - 1); have d2 := cu h3 (j + v.length)
   have e1 := cu hv (v.length - 1); have e2 := cu hv (v.length - 2)
   refine Ok.gd (by rw [bg]; simp; omega) (Ok.gd (by rw [bg]; simp; omega) ?_)
   rw [aG (n := v.getD (v.length - 1) 0) (by omega) (by omega), aG (n := v.getD (v.length - 2) 0) (by omega) (by omega), aG (n := u.getD (j + v.length - 2) 0) (by omega) (by omega), aG (n := u.getD (j + v.length - 1) 0) (by omega) (by omega), aG (n := u.getD (j + v.length) 0) (by omega) (by omega),
    aG (n := u.getD (j + v.length) 0 * 1000000000) (by omega) (by omega), aG (n := u.getD (j + v.length) 0 * 1000000000 + u.getD (j + v.length - 1) 0) (by omega) (by omega)]
   refine Ok.gd (by rw [decide_eq_false (by omega)]; rfl) ?_
   have e5 : u.getD (j + v.length) 0 * 1000000000 + u.getD (j + v.length - 1) 0 = u.getD (j + v.length - 1) 0 + 1000000000 * u.getD (j + v.length) 0 := by omega
   rw [e5, (nW (by omega)).1, (nW (by omega)).2, aG (n := _ / _) (Int.ediv_nonneg (by omega) (by omega)) (Int.le_trans (Int.ediv_le_self _ (by omega)) (by omega))]
   refine Ok.bd (D3 hn kn rfl rfl (by omega) (by omega)) fun g hg => ?_
   obtain ⟨g0, g1, g2, g3⟩ := hg
   refine Ok.bd (Ga hn hv h3 ⟨g0, g1⟩ c8 (by omega) (by omega)) ?_
   rintro ⟨u1, bo, ca⟩ ⟨s1, s2, s3, s4, s5, s6, s7⟩
   simp only at s1 s2 s3 s4 s5 s6 s7
   dsimp only
   refine Ok.gd (by rw [bg]; simp; omega) ?_
   have c6 := s5 (j + v.length) (by omega)
   rw [dy, c6, wrap64_in (n := u.getD (j + v.length) 0) (by omega) (by omega), wrap64_in (n := u.getD (j + v.length) 0 - bo) (by omega) (by omega), wrap64_in (n := ca) (by omega) (by omega), wrap64_in (n := u.getD (j + v.length) 0 - bo - ca) (by omega) (by omega), Int.toNat_natCast, Int.toNat_natCast]
   have hzero : ∀ t, j + v.length + 1 <= t -> u.getD t 0 = 0 := fun t ht => B4 h3 (t := j + 1 + v.length) (by
    have := nX (gQ h3 (j + 1)) (k := v.length) (Int.lt_trans h7 (gP hv))
    rw [List.drop_drop] at this; exact this) t (by omega)
   have hW := aY (gQ h3 j)
   have last : ∀ (z : List Int) (d : Int), z.length = u0.length -> Dig z -> (0 <= d /\ d < 1000000000) -> vl z = vl u - pB j * (d * vl v) -> vl (z.drop j) < vl v -> Ok (again (q.set j d, z, (((j : Nat) : Int) - 1))) (DS v u0 m) := by
    intro z d g6 a8 hd g7 b8
    refine ih _ ⟨j, rfl, by omega, g6, a8, by simpa using h4, iN h5 hd, ?_, b8, ?_⟩ (by simp)
    · intro i hi
      simp only
      rw [gM (by omega)]
      exact h6 i (by omega)
    · simp only
      rw [kJ (by omega), h6 j (by omega), g7]
      grind
   have c4 : IE ((j : Int) - 1) = (j : Int) - 1 := wrap64_in (by omega) (by omega)
   refine Ok.cd (fun h => ?_) (fun h => ?_)
   · have j3 := dcT h
     rw [wrap64_in (n := u.getD (j + v.length) 0 - bo - ca + 1000000000) (by omega) (by omega), ba (n := u.getD (j + v.length) 0 - bo - ca + 1000000000) (by omega) (by omega)]
     obtain ⟨z2, a8⟩ : ∃ z2, u1.set (j + v.length) (u.getD (j + v.length) 0 - bo - ca + 1000000000) = z2 := ⟨_, rfl⟩
     rw [a8]
     have l2 : z2.length = u0.length := by rw [<- a8]; simp; omega
     have c2 : Dig z2 := by rw [<- a8]; exact iN s2 (by omega)
     have c0 : vl z2 = vl u + pB j * (pB (v.length + 1) - g * vl v) := by
      rw [<- a8, kJ (by omega), s7, c6, kY j v.length, cy v.length]; grind
     have c3 : vk z2 j = vk u j := by rw [<- a8, tN (by omega)]; exact s6
     have e6 : ∀ t, j + v.length + 1 <= t -> z2.getD t 0 = 0 := fun t ht => by rw [<- a8, gM (by omega), s5 t (by omega)]; exact hzero t ht
     have w2 := A1 c3 c0
     have j6 := win c2 e6
     have g8 : vl (u.drop j) < g * vl v := by omega
     have g9 : 1 <= g := by
      by_cases hh : g = 0
      · rw [hh] at g8; omega
      · omega
     have j7 := g3 g9
     refine Ok.bd (GP hn hv c2 c8 (by omega) (by omega)) ?_
     rintro ⟨u3, c⟩ ⟨a1, a2, a3, a4, a5, a6⟩
     simp only at a1 a2 a3 a4 a5 a6
     dsimp only
     refine Ok.gd (by rw [bg]; simp; omega) (Ok.gd (by rw [bg]; simp; omega) ?_)
     have j8 := a4 (j + v.length) (by omega)
     have j9 : z2.getD (j + v.length) 0 = u.getD (j + v.length) 0 - bo - ca + 1000000000 := by rw [<- a8, DU (by omega)]
     rw [dy, aG (n := g - 1) (by omega) (by omega), ba (n := g - 1) (by omega) (by omega), ba (n := u3.getD (j + v.length) 0 + c) (by omega) (by omega), (nW (by omega)).2, c4]
     obtain ⟨o, ho⟩ : ∃ o, (u3.getD (j + v.length) 0 + c) / 1000000000 = o := ⟨_, rfl⟩
     have e7 : (u3.getD (j + v.length) 0 + c) % 1000000000 = u3.getD (j + v.length) 0 + c - 1000000000 * o := by omega
     have c1 : o = 0 \/ o = 1 := by omega
     obtain ⟨z4, b8⟩ : ∃ z4, u3.set (j + v.length) ((u3.getD (j + v.length) 0 + c) % 1000000000) = z4 := ⟨_, rfl⟩
     rw [b8]
     have l4 : z4.length = u0.length := by rw [<- b8]; simp; omega
     have e8 : Dig z4 := by rw [<- b8]; exact iN a2 (by omega)
     have c7 : vl z4 = vl u + pB j * (pB (v.length + 1) * (1 - o) - (g - 1) * vl v) := by
      rw [<- b8, kJ (by omega), a6, c0, e7, kY j v.length, cy v.length]; grind
     have h9 : vk z4 j = vk u j := by rw [<- b8, tN (by omega)]; exact a5.trans c3
     have j1 : ∀ t, j + v.length + 1 <= t -> z4.getD t 0 = 0 := fun t ht => by rw [<- b8, gM (by omega), a4 t (by omega)]; exact e6 t ht
     have w4 := A1 h9 c7
     have k0 := win e8 j1
     have j2 : o = 1 := by
      rcases c1 with c1 | c1
      · rw [c1] at w4; omega
      · exact c1
     rw [j2] at w4 c7
     have eg : (g - 1) * vl v = g * vl v - vl v := by grind
     exact last z4 (g - 1) l4 e8 (by omega) (by rw [c7]; grind) (by omega)
   · have j4 := dcF h
     rw [ba (n := u.getD (j + v.length) 0 - bo - ca) (by omega) (by omega), ba (n := g) (by omega) (by omega), c4]
     refine Ok.gd (by rw [bg]; simp; omega) ?_
     obtain ⟨z2, a8⟩ : ∃ z2, u1.set (j + v.length) (u.getD (j + v.length) 0 - bo - ca) = z2 := ⟨_, rfl⟩
     rw [a8]
     have l2 : z2.length = u0.length := by rw [<- a8]; simp; omega
     have c2 : Dig z2 := by rw [<- a8]; exact iN s2 (by omega)
     have c0 : vl z2 = vl u - pB j * (g * vl v) := by
      rw [<- a8, kJ (by omega), s7, c6, kY j v.length]; grind
     have c3 : vk z2 j = vk u j := by rw [<- a8, tN (by omega)]; exact s6
     have w2 := A1 (D := -(g * vl v)) c3 (by rw [c0]; grind)
     have eg : (g + 1) * vl v = g * vl v + vl v := by grind
     exact last z2 g l2 c2 ⟨g0, g1⟩ c0 (by omega)
 · have hk := dcF h
   obtain rfl : k = 0 := by omega
   exact az.2 ⟨h5, h3, h4, h2, by simpa using h7, h8⟩
end Go.L


set_option linter.all false
namespace Go.L
open Go Go.Eng
theorem xv {d : Int} (hd : 0 < d) (z : d <= 1000000000) : ∀ {l : List Int}, Dig l -> Dig (cj d l).1 /\ (cj d l).1.length = l.length /\ (0 <= (cj d l).2 /\ (cj d l).2 < d) /\ vl (cj d l).1 * d + (cj d l).2 = vl l
 | [], _ => ⟨mj, rfl, ⟨Int.le_refl _, hd⟩, by show 0 * d + 0 = 0; omega⟩
 | g :: l, h => by
  have M := gJ.1 h
  obtain ⟨h1, h2, N, J⟩ := xv hd z M.2
  unfold cj
  rcases C : cj d l with ⟨q, r⟩
  simp only [C] at h1 h2 N J ⊢
  have O : r * 1000000000 <= (d - 1) * 1000000000 := by omega
  rw [aG (n := r * 1000000000) (by omega) (by omega), aG (n := g) (by omega) (by omega), aG (n := r * 1000000000 + g) (by omega) (by omega)]
  generalize hs : r * 1000000000 + g = s
  have j : 0 <= s := by omega
  rw [(nW j).1, (nW j).2]
  have hm := Int.emod_add_mul_ediv s d
  have D := Int.emod_nonneg s (by omega : d ≠ 0)
  have E := Int.emod_lt_of_pos s hd
  have m : 0 <= s / d := Int.ediv_nonneg j (by omega)
  have I : s / d < 1000000000 := (Int.ediv_lt_iff_lt_mul hd).2 (by omega)
  rw [aG m (by omega), ba m (by omega)]
  refine ⟨gJ.2 ⟨⟨m, I⟩, h1⟩, by simp [h2], ⟨D, E⟩, ?_⟩
  show (s / d + 1000000000 * vl q) * d + s % d = g + 1000000000 * vl l
  rw [<- J]
  grind
theorem z6 : ∀ {l : List Int}, Dig l -> Can (oI l) /\ vl (oI l) = vl l
 | [], _ => ⟨trivial, rfl⟩
 | d :: l, h => by
  have j := gJ.1 h
  obtain ⟨h1, h2⟩ := z6 j.2
  unfold oI
  show _ /\ _ = d + 1000000000 * vl l
  rw [<- h2]
  cases m : oI l with
  | nil =>
   simp only
   split
   · rename_i hd
     have : d = 0 := by simpa using hd
     subst this; exact ⟨trivial, rfl⟩
   · rename_i hd
     have : d ≠ 0 := by simpa using hd
     exact ⟨⟨j.1, fun _ => this, trivial⟩, rfl⟩
  | cons e r =>
   rw [m] at h1
   exact ⟨⟨j.1, fun h => by simp at h, h1⟩, rfl⟩
theorem mI {n : Nat} {a : List Int} {d : Int} (ha : Dig a) (z : a.length <= 900) (hd : 0 < d) (j : d <= 1000000000) : Ok (eO n a d) fun r => Can r.1 /\ (0 <= r.2 /\ r.2 < d) /\ vl r.1 * d + r.2 = vl a := by
 unfold eO
 obtain ⟨h1, h2, m, q⟩ := xv hd j ha
 obtain ⟨t1, t2⟩ := z6 h1
 refine Ok.gd (by simp; omega) (Ok.gd (by simp; omega) (Ok.gd (by simp; omega) (az.2 ?_)))
 simp only
 rw [ba m.1 (by omega), t2]
 exact ⟨t1, m, q⟩
theorem vV (n : Nat) (a b : List Int) : iv n a b = iE n a b := rfl
theorem B5 {b : List Int} (hb : Can b) (lb : 1 <= b.length) : 1 <= b.getD (b.length - 1) 0 /\ b.getD (b.length - 1) 0 < 1000000000 /\ pB (b.length - 1) * b.getD (b.length - 1) 0 <= vl b /\ vl b < pB (b.length - 1) * (b.getD (b.length - 1) 0 + 1) := by
 have h1 := qk hb (by rintro rfl; simp at lb)
 have h2 := cu hb.dig (b.length - 1)
 have e := fh b (b.length - 1)
 have e2 := gj b (b.length - 1)
 rw [List.drop_of_length_le (by omega : b.length <= b.length - 1 + 1)] at e2
 have m : vl ([] : List Int) = 0 := rfl
 have j : vl (b.drop (b.length - 1)) = b.getD (b.length - 1) 0 := by omega
 rw [j] at e
 have q := iz hb.dig (b.length - 1)
 have z := si hb.dig (b.length - 1)
 refine ⟨by omega, h2.2, by omega, ?_⟩
 rw [Int.mul_add]; omega
theorem EI {n : Nat} {a b : List Int} (D : 1000 <= n) (ha : Can a) (hb : Can b) (lb : 2 <= b.length) (la : a.length <= 300) (a5 : b.length <= 300) (hle : vl b <= vl a) : Ok (ie n a b) fun r => Can r.1 /\ Can r.2 /\ vl r.2 < vl b /\ vl r.1 * vl b + vl r.2 = vl a := by
 unfold ie
 obtain ⟨t1, t2, t3, t4⟩ := B5 hb (by omega)
 rw [ku (k := b.length) (by omega) (by omega), dy]
 obtain ⟨t, ht⟩ : ∃ t, b.getD (b.length - 1) 0 = t := ⟨_, rfl⟩
 rw [ht] at t1 t2 t3 t4 ⊢
 rw [aG (n := t) (by omega) (by omega), aG (n := t + 1) (by omega) (by omega), (nW (by omega : (0 : Int) <= 1000000000)).1]
 obtain ⟨s, hs⟩ : ∃ s, (1000000000 : Int) / (t + 1) = s := ⟨_, rfl⟩
 obtain ⟨s1, s2, s3, s4⟩ := qx t1 t2 hs.symm
 rw [hs, aG (n := s) (by omega) (by omega), ba (n := s) (by omega) (by omega)]
 refine Ok.gd (by rw [bg]; simp; omega) (Ok.gd (by rw [decide_eq_false (by omega)]; rfl) ?_)
 have E : Dig [s] := fe.2 (by omega)
 rw [vV, vV]
 refine Ok.bd (zE D ha.dig E (by omega) (by simp)) ?_
 rintro u ⟨u1, u2⟩
 refine Ok.bd (zE D hb.dig E (by omega) (by simp)) ?_
 rintro v ⟨v1, v2⟩
 rw [fU] at u2 v2
 have hp := gy (b.length - 1)
 have ep : pB b.length = 1000000000 * pB (b.length - 1) := by rw [<- cy, (by omega : b.length - 1 + 1 = b.length)]
 have I : vl v < pB b.length := by
  have : vl b * s <= (pB (b.length - 1) * (t + 1) - 1) * s := mrT (by omega) (by omega)
  have e : (pB (b.length - 1) * (t + 1) - 1) * s = pB (b.length - 1) * ((t + 1) * s) - s := by grind
  have : pB (b.length - 1) * ((t + 1) * s) <= pB (b.length - 1) * 1000000000 := mlT s4 (by omega)
  omega
 have a3 : 500000000 * pB (b.length - 1) <= vl v := by
  have h1 : (pB (b.length - 1) * t) * s <= vl b * s := mrT t3 (by omega)
  have e : (pB (b.length - 1) * t) * s = pB (b.length - 1) * (t * s) := by grind
  have h2 : pB (b.length - 1) * 500000000 <= pB (b.length - 1) * (t * s) := mlT s1 (by omega)
  omega
 have lv : v.length = b.length := by
  have h1 := lk v1 I
  by_cases h : v.length = b.length
  · exact h
  · have h2 := gP v1.dig
    have h3 := ia (by omega : v.length <= b.length - 1)
    omega
 have a0 : 500000000 <= v.getD (v.length - 1) 0 := by
  obtain ⟨c1, c2, c3, c4⟩ := B5 v1 (by omega)
  rw [lv] at c4 ⊢
  by_cases h : 500000000 <= v.getD (b.length - 1) 0
  · exact h
  · have : pB (b.length - 1) * (v.getD (b.length - 1) 0 + 1) <= pB (b.length - 1) * 500000000 := mlT (by omega) (by omega)
    omega
 have lu : u.length <= a.length + 1 := lk u1 (by
  have h1 := gP ha.dig; have h2 := aY ha.dig
  rw [u2, cy]
  have : vl a * s <= vl a * 1000000000 := mlT (by omega) h2
  omega)
 have a6 : v.length <= u.length := by
  by_cases h : v.length <= u.length
  · exact h
  · have := cm u1.dig v1 (by omega)
    have : vl b * s <= vl a * s := mrT hle (by omega)
    omega
 have fin : ∀ (J : List Int) (m : Nat) (q r : List Int), vl J = vl u -> J.length = v.length + m -> J.length <= 900 -> DS v J m (q, r) ->
   Ok (gdO (inS 0 (v.length : Int) r.length) (bdO (dL n (r.take (v.length : Int).toNat)) fun M => bdO (eO n M s) fun N => bdO (dL n q) fun O => some ((O, N.1)))) fun r => Can r.1 /\ Can r.2 /\ vl r.2 < vl b /\ vl r.1 * vl b + vl r.2 = vl a := by
  rintro J m q r e0 e1 e2 ⟨q1, T, q3, q4, U, q6⟩
  simp only at q1 T q3 q4 U q6
  refine Ok.gd (sA.2 (by omega)) ?_
  rw [Int.toNat_natCast]
  have hz : ∀ k, v.length <= k -> r.getD k 0 = 0 := B4 T (nX T (Int.lt_trans U (gP v1.dig)))
  refine Ok.bd (qV D (qF T _) (by rw [List.length_take]; omega)) ?_
  rintro w ⟨w1, C⟩
  rw [yL (by omega) hz] at C
  have lw : w.length <= 900 := by
   have := lk w1 (k := v.length) (by rw [C]; exact Int.lt_trans U (gP v1.dig)); omega
  refine Ok.bd (mI w1.dig lw (by omega) (by omega)) ?_
  rintro ⟨y, c⟩ ⟨y1, y2, Y⟩
  simp only at y1 y2 Y
  refine Ok.bd (qV D q1 (by omega)) ?_
  rintro z ⟨z1, z2⟩
  refine az.2 ⟨z1, y1, ?_, ?_⟩
  all_goals simp only
  ·
   have hmul : (vl y * s + c) + vl q * (vl b * s) = vl a * s := by rw [Y, C, <- v2, <- u2, <- e0]; exact q6
   have a1 : vl y * s < vl b * s := by
    have : vl y * s + c < vl b * s := by rw [Y, C, <- v2]; exact U
    omega
   exact Int.lt_of_mul_lt_mul_right a1 (by omega)
  · have hmul : (vl y * s + c) + vl q * (vl b * s) = vl a * s := by rw [Y, C, <- v2, <- u2, <- e0]; exact q6
    have e : c = (vl a - vl y - vl q * vl b) * s := by grind
    have a7 : vl a - vl y - vl q * vl b = 0 := by
     by_cases h1 : vl a - vl y - vl q * vl b = 0
     · exact h1
     · exfalso
       by_cases h2 : 1 <= vl a - vl y - vl q * vl b
       · have : 1 * s <= (vl a - vl y - vl q * vl b) * s := mrT h2 (by omega)
         omega
       · have : (vl a - vl y - vl q * vl b) * s <= (-1) * s := mrT (by omega) (by omega)
         omega
    rw [z2]; omega
 have a4 : pB (v.length - 1) <= vl v := by rw [lv]; omega
 have j : ∀ (w : List Int) (m : Nat), Dig w -> w.length + 1 = v.length + m -> vl ((w ++ [0]).drop m) < vl v := by
  intro w m hw hl
  have e : (w ++ [0]).drop m = w.drop m ++ [0] := by rw [List.drop_append_of_le_length (by omega)]
  rw [e, ka, fU]
  have h1 := gP (gQ hw m)
  rw [List.length_drop, (by omega : w.length - m = v.length - 1)] at h1
  omega
 refine Ok.gd (by simp; omega) (Ok.gd (by simp; omega) ?_)
 have d1 : Dig (u ++ [0]) := jz.2 ⟨u1.dig, fe.2 (by omega)⟩
 have e1 : vl (u ++ [0]) = vl u := by rw [ka, fU]; omega
 have l1 : (u ++ [(0 : Int)]).length = u.length + 1 := by simp
 have d2 : Dig ((u ++ [0]) ++ [0]) := jz.2 ⟨d1, fe.2 (by omega)⟩
 have e2 : vl ((u ++ [0]) ++ [0]) = vl u := by rw [ka, fU, e1]; omega
 have l2 : ((u ++ [(0 : Int)]) ++ [(0 : Int)]).length = u.length + 2 := by simp
 refine Ok.bd (R := fun w => Dig w /\ vl w = vl u /\ v.length <= w.length /\ w.length <= 900 /\ vl (w.drop (w.length - v.length)) < vl v) ?_ ?_
 · refine Ok.cd (fun h => ?_) (fun h => az.2 ?_)
   · refine Ok.gd (by simp; omega) (Ok.gd (by simp; omega) (az.2 ⟨d2, e2, by omega, by omega, ?_⟩))
     exact j _ _ d1 (by omega)
   · exact ⟨d1, e1, by omega, by omega, j _ _ u1.dig (by omega)⟩
 rintro w ⟨w1, C, w3, w4, w5⟩
 have hw : IE ((w.length : Int) - (v.length : Int)) = ((w.length - v.length : Nat) : Int) := by rw [wrap64_in (by omega) (by omega)]; omega
 rw [hw, Int.toNat_natCast]
 refine Ok.gd (by simp; try omega) (Ok.gd (by simp; try omega) (Ok.gd (by simp; try omega) ?_))
 refine Ok.bd (Fw D v1.dig a0 (by omega) (by omega) w1 (m := w.length - v.length) (by omega) (by omega) w5 (by rw [wrap64_in (by omega) (by omega)])) ?_
 rintro ⟨q, r⟩ a2
 exact fin _ _ q r C (by omega) (by omega) a2
end Go.L

