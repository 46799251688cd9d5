import Derived.Test.YtecdcgfclgmbpaaGreatApaL51as
set_option linter.all false
namespace Go.L
open Go Go.Eng
theorem Fq {g : al} {w h : Nat} (m : Gd g w h) {c : an} {r : Rat} (he : rp (lD g w h) c.A c.B = true) (q : Qx c.At r 16) (h0 : 0 <= r) (h1 : r <= 1) :
  ∃ p, bt 20000 g c = some (p, 0) /\ R.Qx p.X (pG r (pxG g c.A) (pxG g c.B)) 27 /\ R.Qx p.Y (pG r (pyG g c.A) (pyG g c.B)) 27 := by
 obtain ⟨i0, i1, i2⟩ := ET m he
 have j : R.Qx c.At r 16 := q
 have v2 := R.xj (n := 20000) (by omega) (by omega) j
 have s2 := R.zo (n := 20000) (by omega) (by omega) j
 obtain ⟨U, C, D⟩ := R.tQ (n := 20000) (v := 1) (by omega) (by omega) (by omega)
 have M := R.nB (n := 20000) (by omega) (by omega) j D
 have one : Rat.divInt 1 1 = 1 := by rw [jR]; rfl
 rw [one] at M
 have e1 : decide (sgn r.num < 0) = false := decide_eq_false (by have := (Ht (a := r)); grind)
 have e3 : decide (sgn (r - 1).num > 0) = false := decide_eq_false (fun hh => by have := Hk.1 hh; grind)
 obtain ⟨p1, E⟩ := BB m i0 (by omega : c.A < g.Z.length)
 obtain ⟨p2, I⟩ := BB m (by omega : 0 <= c.B) i2
 have P2 : Ok (whR 20000 p1 p2 c) fun r2 => r2.2 = 0 /\ R.Qx r2.1.X (pG r (pxG g c.A) (pxG g c.B)) 27 /\ R.Qx r2.1.Y (pG r (pyG g c.A) (pyG g c.B)) 27 :=
  BS q E.2.1 I.2.1 fun u hu => BS q E.2.2 I.2.2 fun v hv => az.2 ⟨rfl, hu, hv⟩
 obtain ⟨⟨p, z⟩, J, N, O, T⟩ := P2
 dsimp only at N O T
 subst N
 refine ⟨p, ?_, O, T⟩
 rw [Ev (by omega) m, he]
 unfold whK
 show bdO (bI 20000 c.At) _ = _
 rw [v2]
 show bdO (di 20000 c.At) _ = _
 rw [s2]
 show cdO (decide (sgn r.num < 0)) _ (bdO (bH 20000 1) _) = _
 rw [e1, C]
 show bdO (bh 20000 c.At U) _ = _
 rw [M]
 show cdO (decide (sgn (r - 1).num > 0)) _ (bdO (bJ 20000 g c.A) _) = _
 rw [e3, E.1]
 show bdO (bJ 20000 g c.B) _ = _
 rw [I.1]
 exact J
section
variable {g : al} {level : Int} {w h : Nat}
noncomputable def plR (g : al) (level : Int) (e : K2) : ar := ((bt 20000 g (crP g level e)).getD default).1
theorem yF (q : Gd g w h) (j : okL level) {e : K2} (he : Ce g w h level e) : bt 20000 g (crP g level e) = some (plR g level e, 0) /\ R.Qx (plR g level e).X (xG g level e) 27 /\ R.Qx (plR g level e).Y (yG g level e) 27 := by
 obtain ⟨-, a, b, c⟩ := sY ⟨j.2.1, j.2.2⟩ he.cr
 obtain ⟨r0, r1⟩ := wC j.1 he.ab
 obtain ⟨p, e1, e2, m⟩ := Fq q (c := crP g level e) (r := crE g.Z level e) (by rw [a, b]; exact he.ed) (QL.mono c (by omega)) (by grind) (by grind)
 have : plR g level e = p := by unfold plR; rw [e1]; rfl
 rw [this]
 rw [a, b] at e2 m
 exact ⟨e1, e2, m⟩
theorem ze (m : Gd g w h) (q : okL level) {x : Ln} (z : x.2.length <= 80) (j : ∀ e ∈ x.2, Ce g w h level e) : cL 20000 g (toL (crP g level) x) = some (x.2.map (plR g level), 0) := by
 rw [DP (c := toL (crP g level) x) (by show (x.2.map _).length <= 80; rw [List.length_map]; omega) fun y C => by
  obtain ⟨e, he, rfl⟩ := List.mem_map.1 C
  exact ⟨_, (yF m q (j e he)).1⟩]
 show jD (bt 20000 g) (x.2.map (crP g level)) [] = _
 rw [uw x.2 [] fun e he => (yF m q (j e he)).1, List.nil_append]
theorem Gl {S : List (K2 × K2)} : ∀ (f : Nat) (D : K2 -> Bool) (e : K2), (W S f D e).length <= mu S D + 1
 | 0, D, e => by simp [W]
 | f + 1, D, e => by
  unfold W
  by_cases j : D e = true
  · rw [if_pos j]; simp
  · rw [if_neg j]
    by_cases m : cD S e = true
    · rw [if_pos m, List.length_cons]
      have a := Gl (S := S) f (fun x => x == e || D x) (getM (A2.mk 0 0) S e)
      have b := u9 (S := S) (D := D) m (by simpa using j)
      omega
    · rw [if_neg m]; simp
theorem AU {S : List (K2 × K2)} : ∀ (L : List K2) (D : K2 -> Bool), ∀ l ∈ CLs S L D, l.length <= S.length + 1
 | [], _, l, j => by cases j
 | e :: L, D, l, j => by
  unfold CLs at j
  split at j
  · exact AU L _ l j
  · rcases List.mem_cons.1 j with rfl | j
    · have a := Gl (S := S) 100 D e; have b := w7 S D; omega
    · exact AU L _ l j
theorem CT {S : List (K2 × K2)} (m : S.length <= 60) {x : Ln} (hx : x ∈ pr S) : x.2.length <= 61 := by
 rcases vh.1 hx with ⟨e, he, rfl⟩ | ⟨l, j, rfl⟩
 · have a := Gl (S := S) 100 (fun _ => false) e; have b := w7 S (fun _ => false)
   show (path S e).length <= 61
   unfold path; omega
 · have := AU _ _ l j
   show l.length <= 61
   omega
theorem Gq {S : List (K2 × K2)} {P : K2 -> Prop} (j : Ge S P) {x : Ln} (hx : x ∈ pr S) : ∀ e ∈ x.2, P e := by
 have st : ∀ e ∈ stK S, P e := fun e he => by
  obtain ⟨q, m, rfl⟩ := iq.1 (vg.1 he)
  exact (j.k q m).1
 rcases vh.1 hx with ⟨e, he, rfl⟩ | ⟨l, z, rfl⟩
 · exact fun y C => AF j 100 (fun _ => false) e (st e (List.mem_filter.1 he).1) y C
 · exact we j _ _ st l z
theorem ye {S : List (K2 × K2)} (hp : S.Pairwise Rq) (j : S.length <= 60) : (uM S).length <= 60 := by
 obtain ⟨-, a, b⟩ := u7 hp j
 have := wF (m := S.map (·.1)) a fun x hx => by
  obtain ⟨q, z, rfl⟩ := List.mem_map.1 hx
  exact List.mem_map.2 ⟨q, b q z, rfl⟩
 rw [List.length_map, List.length_map] at this
 omega
noncomputable def Pc (g : al) (level : Int) (q : K2 × K2) : ae := ae.mk (plR g level q.1) (plR g level q.2) (A2.mk (A2.mk q.1.e0 q.1.e1) (A2.mk q.2.e0 q.2.e1))
theorem Bg {l : List K2} {k : Nat} (h : k < l.length) {z : K2} : l.getD k z = l[k] := by simp [List.getD, geT h]
theorem BL (j : okL level) {e : K2} (he : Ce g w h level e) : (crP g level e).A = e.e0 /\ (crP g level e).B = e.e1 := by
 obtain ⟨-, a, b, -⟩ := sY ⟨j.2.1, j.2.2⟩ he.cr
 exact ⟨a, b⟩
theorem zN (hg : Gd g w h) (hl : okL level) {S : List (K2 × K2)} (hp : S.Pairwise Rq) (hS : S.length <= 60) (a2 : Ge S (Ce g w h level)) (C : List ak × Int) (hv : C.1 = (pr S).map (toL (crP g level))) : aP (α := List ae × Int) (β := Sum (List ae) (Bool)) 20000 (fun O (M, j) => (
              cdO (decide (j < (C.1.length : Int))) (
               gdO (inR j C.1.length) (
               bdO (cL 20000 g (gt C.1 j)) fun D => (
               cdO ((D.2 : Int) != 0) (
                some (Sum.inr (false))
               ) (
                bdO (aP (α := List ae × Int) (β := List ae) 20000 (fun E (z, q) => (
                 cdO (decide (q < (D.1.length : Int))) (
                  gdO (!decide ((D.1.length : Int) = 0)) (
                  bdO (some ((IE (q + 1)).tmod (D.1.length : Int))) fun I => (
                  cdO (decide (I > 0)) (
                   gdO (inR q (gt C.1 j).Points.length) (
                   gdO (inR I (gt C.1 j).Points.length) (
                   gdO (inR q D.1.length) (
                   gdO (inR I D.1.length) (
                   gdO (decide ((z.length + 1) * 288 <= 140737488355328)) (
                   gdO (decide (z.length + 1 <= 4611686018427387904)) (
                   E (z ++ [ae.mk (gt D.1 q) (gt D.1 I) (A2.mk (A2.mk (gt (gt C.1 j).Points q).A (gt (gt C.1 j).Points q).B) (A2.mk (gt (gt C.1 j).Points I).A (gt (gt C.1 j).Points I).B))], IE (q + 1))
                   )
                   )
                   )
                   )
                   )
                   )
                  ) (
                   cdO (gt C.1 j).Closed (
                    gdO (inR q (gt C.1 j).Points.length) (
                    gdO (inR I (gt C.1 j).Points.length) (
                    gdO (inR q D.1.length) (
                    gdO (inR I D.1.length) (
                    gdO (decide ((z.length + 1) * 288 <= 140737488355328)) (
                    gdO (decide (z.length + 1 <= 4611686018427387904)) (
                    E (z ++ [ae.mk (gt D.1 q) (gt D.1 I) (A2.mk (A2.mk (gt (gt C.1 j).Points q).A (gt (gt C.1 j).Points q).B) (A2.mk (gt (gt C.1 j).Points I).A (gt (gt C.1 j).Points I).B))], IE (q + 1))
                    )
                    )
                    )
                    )
                    )
                    )
                   ) (
                    E (z, IE (q + 1))
                   )
                  )
                  )
                  )
                 ) (
                  some (z)
                 )
                )) (M, 0)) fun T => (
                 O (T, IE (j + 1))
                )
               )
               )
               )
              ) (
               some (Sum.inl M)
              )
 )) ([], 0) = some (Sum.inl ((uM S).map (Pc g level))) := by
 apply Ok.eq
 rw [hv]
 obtain ⟨a0, a7, a6⟩ := u7 hp hS
 have a3 := ye hp hS
 have a4 : (pr S).length <= 120 := by
  unfold pr
  rw [mG]
  refine zz ?_ hS
  have h1 : (opK S).length <= (stK S).length := List.length_filter_le _ _
  have h2 : (stK S).length = S.length := by unfold stK; rw [mG, List.length_map]
  omega
 refine iG (γ := List ae) (len := (pr S).length) (fun s x => (s, x)) (fun k s => s = (((pr S).take k).flatMap (pcs S)).map (Pc g level) /\ s.length <= 61 * k) (by omega) (by omega) (c0 := []) ⟨rfl, by simp⟩ ?_ ?_
 · rintro again k s hk ⟨hs, a8⟩ ih
   have hx := List.getElem_mem hk
   have a5 := CT hS hx
   have hc := Gq a2 hx
   have a1 := (a0 _ hx).go
   rw [qW hk, List.flatMap_append, List.map_append, <- hs] at ih
   have e1 : [(pr S)[k]].flatMap (pcs S) = pcs S (pr S)[k] := by rw [List.flatMap_cons, List.flatMap_nil, List.append_nil]
   rw [e1] at ih
   dsimp only
   refine Ok.cd (fun _ => ?_) (fun h => by have := dcF h; rw [List.length_map] at this; omega)
   refine Ok.gd (by rw [bg]; exact decide_eq_true (by rw [List.length_map]; exact hk)) ?_
   rw [rK hk]
   generalize (pr S)[k] = x at *
   obtain ⟨b, l⟩ := x
   dsimp only at a5 hc a1
   refine Ok.bde (ze hg hl (by dsimp only; omega) hc) (Ok.cd (fun h => by cases h) (fun _ => ?_))
   have pl : (toL (crP g level) (b, l)).Points = l.map (crP g level) := rfl
   have pc : (toL (crP g level) (b, l)).Closed = b := rfl
   rw [pl, pc]
   dsimp only
   refine Ok.bd (R := fun o => o = s ++ (pcs S (b, l)).map (Pc g level) /\ o.length <= s.length + l.length) ?_ ?_
   · refine iG (γ := List ae) (len := l.length) (fun s x => (s, x)) (fun m o => o = s ++ (((l.take m).filter (cD S)).map fun e => (e, nxt S e)).map (Pc g level) /\ o.length <= s.length + m) (by omega) (by omega) (c0 := s) ⟨by simp, by omega⟩ ?_ ?_
     · rintro J m o hm ⟨ho, U⟩ Y
       obtain ⟨g1, g2⟩ := a1 m hm
       have N : (m + 1) % l.length < l.length := Nat.mod_lt _ (by omega)
       rw [Bg hm] at g1 g2
       rw [Bg N] at g2
       rw [qW hm, List.filter_append, List.map_append, List.map_append, <- List.append_assoc, <- ho] at Y
       dsimp only
       rw [List.length_map]
       refine Ok.cd (fun _ => ?_) (fun h => by have := dcF h; omega)
       refine Ok.gd (by rw [decide_eq_false (show ¬ ((l.length : Int) = 0) by omega)]; rfl) (Ok.bde rfl ?_)
       rw [HI hm (by omega), List.length_map]
       have add : cD S l[m] = true -> Ok (gdO (inR (m : Int) l.length) (gdO (inR (((m + 1) % l.length : Nat) : Int) l.length) (gdO (inR (m : Int) l.length) (gdO (inR (((m + 1) % l.length : Nat) : Int) l.length) (gdO (decide ((o.length + 1) * 288 <= 140737488355328)) (gdO (decide (o.length + 1 <= 4611686018427387904)) (J (o ++ [ae.mk (gt (l.map (plR g level)) (m : Int)) (gt (l.map (plR g level)) (((m + 1) % l.length : Nat) : Int)) (A2.mk (A2.mk (gt (l.map (crP g level)) (m : Int)).A (gt (l.map (crP g level)) (m : Int)).B) (A2.mk (gt (l.map (crP g level)) (((m + 1) % l.length : Nat) : Int)).A (gt (l.map (crP g level)) (((m + 1) % l.length : Nat) : Int)).B))], IE ((m : Int) + 1)))))))))
         (fun o => o = s ++ (pcs S (b, l)).map (Pc g level) /\ o.length <= s.length + l.length) := by
        intro hh
        refine Ok.gd (by rw [bg]; exact decide_eq_true hm) (Ok.gd (by rw [bg]; exact decide_eq_true N) (Ok.gd (by rw [bg]; exact decide_eq_true hm) (Ok.gd (by rw [bg]; exact decide_eq_true N) (Ok.gd (decide_eq_true (by omega)) (Ok.gd (decide_eq_true (by omega)) ?_)))))
        rw [rK hm, rK N, rK hm, rK N, g2 hh]
        obtain ⟨c1, c2⟩ := BL hl (hc _ (List.getElem_mem hm))
        obtain ⟨c3, c4⟩ := BL hl (hc _ (List.getElem_mem N))
        rw [g2 hh] at c3 c4
        rw [c1, c2, c3, c4]
        refine Y _ ⟨?_, by rw [List.length_append, List.length_singleton]; omega⟩
        rw [List.filter_cons, if_pos hh]; rfl
       have skip : cD S l[m] = false -> Ok (J (o, IE ((m : Int) + 1))) (fun o => o = s ++ (pcs S (b, l)).map (Pc g level) /\ o.length <= s.length + l.length) := by
        intro hh
        refine Y _ ⟨?_, by omega⟩
        rw [List.filter_cons, if_neg (by rw [hh]; simp)]
        simp
       refine Ok.cd (fun h0 => add ?_) (fun h0 => ?_)
       · have := dcT h0
         exact g1.1 (.inl (Int.natCast_pos.1 this))
       · have h0 := dcF h0
         refine Ok.cd (fun hb => add (g1.1 (.inr hb))) (fun hb => skip ?_)
         cases hc : cD S l[m] with
         | false => rfl
         | true =>
          rcases g1.2 hc with h | h
          · exact absurd (Int.natCast_pos.2 h) h0
          · rw [h] at hb; cases hb
     · rintro J o ⟨ho, U⟩
       rw [List.take_length] at ho
       dsimp only
       rw [List.length_map]
       exact Ok.cd (fun h => by have := dcT h; omega) (fun _ => az.2 ⟨ho, U⟩)
   · rintro o ⟨ho, U⟩
     refine ih o ⟨ho, ?_⟩
     rw [Nat.mul_succ]; omega
 · rintro again s ⟨hs, -⟩
   rw [List.take_length] at hs
   dsimp only
   exact Ok.cd (fun h => by have := dcT h; rw [List.length_map] at this; omega) (fun _ => az.2 (by rw [hs]; rfl))
end
end Go.L


set_option linter.all false
namespace Go.L
open Go Go.Eng
def Pt (x y s : Rat) (p : ar) (A : R2) : Prop := R.Qx p.X (x + s * A.1) 27 /\ R.Qx p.Y (y + s * A.2) 27
theorem GC {s r : Rat} (hs : 0 < s) : sgn (s * r).num = sgn r.num := by
 have a := xU (s := s) (r := r) hs; have b := C8 (s := s) (r := r) hs; have c := E9 (s := s) (r := r) hs
 rcases AZ (s * r) with ⟨h, e⟩ | ⟨h, e⟩ | ⟨h, e⟩ <;> rcases AZ r with ⟨k, f⟩ | ⟨k, f⟩ | ⟨k, f⟩ <;> rw [e, f] <;> exfalso <;> grind
section
variable {x y s : Rat} {a b p : ar} {A B P : R2}
theorem x4 (hs : 0 < s) (ha : Pt x y s a A) (hb : Pt x y s b B) (hp : Pt x y s p P) : bZ 20000 a b p = some (sgn (cr3 A B P).num) := by
 rw [C5 ha.1 ha.2 hb.1 hb.2 hp.1 hp.2]
 have e : crQ (x + s * A.1 - (x + s * P.1)) (y + s * A.2 - (y + s * P.2)) (x + s * B.1 - (x + s * P.1)) (y + s * B.2 - (y + s * P.2)) = s * s * cr3 A B P := by unfold cr3 crQ; grind
 rw [e, GC (nN hs hs)]
theorem zX (hs : 0 < s) (ha : Pt x y s a A) (hb : Pt x y s b B) (hp : Pt x y s p P) (j : on3 A B P = false) (m : (sgn (cr3 A B P).num == 0) = true) : aQ 20000 a b p = some false := by
 rw [D7 ha.1 ha.2 hb.1 hb.2 hp.1 hp.2]
 have e1 : (x + s * A.1 - (x + s * P.1)) * (x + s * B.1 - (x + s * P.1)) = s * s * ((A.1 - P.1) * (B.1 - P.1)) := by grind
 have e2 : (y + s * A.2 - (y + s * P.2)) * (y + s * B.2 - (y + s * P.2)) = s * s * ((A.2 - P.2) * (B.2 - P.2)) := by grind
 rw [e1, e2]
 simp only [HN (nN hs hs)]
 rw [C9] at m
 unfold on3 at j
 rw [Gk] at j
 unfold cr3 at m
 rw [m, Bool.true_and] at j
 rw [j]
theorem yM {Q : Bool -> Prop} {K : Option Bool} (hs : 0 < s) (ha : Pt x y s a A) (hb : Pt x y s b B) (hp : Pt x y s p P) (j : on3 A B P = false) (k : Ok K Q) : Ok (cdO (((sgn (cr3 A B P).num) : Int) == 0) (bdO (aQ 20000 a b p) fun v => cdO v (some true) K) K) Q :=
 Ok.cd (fun h => Ok.bde (zX hs ha hb hp j h) k) (fun _ => k)
theorem F4 {Q : Bool -> Prop} (hs : 0 < s) (ha : Pt x y s a A) (hb : Pt x y s b B) (hp : Pt x y s p P) (j : on3 A B P = false) (k : Q false) : Ok (cdO (((sgn (cr3 A B P).num) : Int) == 0) (bdO (aQ 20000 a b p) fun v => some v) (some false)) Q :=
 Ok.cd (fun h => Ok.bde (zX hs ha hb hp j h) (az.2 k)) (fun _ => az.2 k)
theorem zU {r t : Rat} : decide (IE (sgn r.num * sgn t.num) < 0) = true -> r * t < 0 := by
 intro h
 have h := dcT h
 have j := AZ r; have b2 := AZ t
 rw [wrap64_in (by rcases j with ⟨_, e⟩ | ⟨_, e⟩ | ⟨_, e⟩ <;> rcases b2 with ⟨_, f⟩ | ⟨_, f⟩ | ⟨_, f⟩ <;> rw [e, f] <;> decide) (by rcases j with ⟨_, e⟩ | ⟨_, e⟩ | ⟨_, e⟩ <;> rcases b2 with ⟨_, f⟩ | ⟨_, f⟩ | ⟨_, f⟩ <;> rw [e, f] <;> decide)] at h
 rcases j with ⟨m, e⟩ | ⟨m, e⟩ | ⟨m, e⟩ <;> rcases b2 with ⟨q, f⟩ | ⟨q, f⟩ | ⟨q, f⟩ <;> rw [e, f] at h
 · exact absurd h (by decide)
 · exact absurd h (by decide)
 · have := Rat.mul_pos (a := -r) (b := t) (by grind) q; grind
 · exact absurd h (by decide)
 · exact absurd h (by decide)
 · exact absurd h (by decide)
 · have := Rat.mul_pos (a := r) (b := -t) m (by grind); grind
 · exact absurd h (by decide)
 · exact absurd h (by decide)
theorem Dt {c d : ar} {C D : R2} (hs : 0 < s) (ha : Pt x y s a A) (hb : Pt x y s b B) (hc : Pt x y s c C) (hd : Pt x y s d D) (h : NM A B C D) : dO 20000 a b c d = some false := by
 apply Ok.eq
 unfold dO
 refine Ok.bde (x4 hs ha hb hc) (Ok.bde (x4 hs ha hb hd) (Ok.bde (x4 hs hc hd ha) (Ok.bde (x4 hs hc hd hb) ?_)))
 refine Ok.bd (R := fun o => o = Sum.inl ()) ?_ ?_
 · exact Ok.cd (fun h1 => Ok.cd (fun h2 => absurd ⟨zU h1, zU h2⟩ h.hx) (fun _ => az.2 rfl)) (fun _ => az.2 rfl)
 · rintro o rfl
   exact yM hs ha hb hc h.hc (yM hs ha hb hd h.hd (yM hs hc hd ha h.ha (F4 hs hc hd hb h.hb rfl)))
end
section
variable {g : al} {w h : Nat}
theorem Bu (j : Gd g w h) {l : Int} (m : okL l) {e : K2} (he : Ce g w h l e) : Pt (Rat.divInt (g.X0 + 0 * g.Step) 1) (Rat.divInt (g.Y0 + 0 * g.Step) 1) (g.Step : Rat) (plR g l e) (uP w g.Z l e) := by
 obtain ⟨-, a, b⟩ := yF j m he
 have e1 := GF (level := l) j (e := e) (o := 0)
 have e2 := GJ (level := l) j (e := e) (o := 0)
 rw [Rat.intCast_zero] at e1 e2
 have f1 : xG g l e = Rat.divInt (g.X0 + 0 * g.Step) 1 + (g.Step : Rat) * (uP w g.Z l e).1 := by unfold uP; grind
 have f2 : yG g l e = Rat.divInt (g.Y0 + 0 * g.Step) 1 + (g.Step : Rat) * (uP w g.Z l e).2 := by unfold uP; grind
 rw [f1] at a; rw [f2] at b
 exact ⟨a, b⟩
theorem eqE {e f : K2} (h : (((e.e0 : Int) == f.e0) && (((e.e1 : Int) == f.e1) && true)) = false) : e ≠ f := by
 rintro rfl
 simp at h
theorem Ie {l1 l2 : Int} {j m : K2 × K2} (h : ((((Pc g l1 j).f_ends.e0.e0 : Int) == (Pc g l2 m).f_ends.e1.e0) && ((((Pc g l1 j).f_ends.e0.e1 : Int) == (Pc g l2 m).f_ends.e1.e1) && true)) = false) : j.1 ≠ m.2 := eqE h
theorem H9 {l1 l2 : Int} {j m : K2 × K2} (h : ((((Pc g l1 j).f_ends.e1.e0 : Int) == (Pc g l2 m).f_ends.e0.e0) && ((((Pc g l1 j).f_ends.e1.e1 : Int) == (Pc g l2 m).f_ends.e0.e1) && true)) = false) : j.2 ≠ m.1 := eqE h
theorem G4 {P : List (K2 × K2)} (z : (P.map (·.1)).Nodup) {k m : Nat} (C : k < P.length) (hm : m < P.length) (h : k ≠ m) : P[k].1 ≠ P[m].1 := by
 intro e
 have j : k < (P.map (·.1)).length := by rw [List.length_map]; exact C
 have q : m < (P.map (·.1)).length := by rw [List.length_map]; exact hm
 exact h ((List.getElem_inj z (h₀ := j) (h₁ := q)).1 (by rw [List.getElem_map, List.getElem_map]; exact e))
theorem F2 {S P : List (K2 × K2)} {l : Int} (hp : S.Pairwise Rq) (E : (P.map (·.1)).Nodup) (hm : ∀ q ∈ P, q ∈ S) {k m : Nat} (D : k < P.length) (z : m < P.length) (h : k ≠ m) (I : P[k].1 ≠ P[m].2) (J : P[k].2 ≠ P[m].1) : Dis l l P[k] P[m] := by
 intro _
 have j := G4 E D z h
 have C : Rq P[k] P[m] := yv (R := Rq) (fun a b h => ⟨fun e => h.1 e.symm, fun e => h.2 e.symm⟩) hp _ (hm _ (List.getElem_mem D)) _ (hm _ (List.getElem_mem z)) (fun e => j (congrArg Prod.fst e))
 refine ⟨fun e => j (congrArg Prod.fst e), ?_⟩
 rintro e (rfl | rfl) (q | q)
 · exact j q
 · exact I q
 · exact J q
 · exact C.2 q
theorem C3 (g : al) (levels : A2 Int) : df 20000 g levels = some true := by
 apply Ok.eq
 unfold df
 refine Ok.bde CH (Ok.cd (fun h => by cases h) (fun _ => ?_))
 refine Ok.bde (b := decide ((g.Z.length : Int) <= 16)) rfl (Ok.cd (fun _ => az.2 rfl) (fun h4 => ?_))
 have D : g.Z.length <= 40 := by
  have : (g.Z.length : Int) <= 16 := by simpa using h4
  omega
 obtain ⟨l1, l2⟩ := levels
 dsimp only
 refine Ok.bde (xH g l1) (Ok.cd (fun _ => az.2 rfl) (fun h1 => ?_))
 refine Ok.bde (xH g l2) (Ok.cd (fun _ => az.2 rfl) (fun h2 => ?_))
 have h1 : Af (mK g) l1 = 0 := by simpa using h1
 have h2 : Af (mK g) l2 = 0 := by simpa using h2
 obtain ⟨N, q⟩ := zO h1
 obtain ⟨-, z⟩ := zO h2
 obtain ⟨w, h, j⟩ := Hb N
 obtain ⟨-, -, hb⟩ := Cn N
 have s1 := DI j hb D l1
 have s2 := DI j hb D l2
 have c1 := yw (level := l1) j hb
 have c2 := yw (level := l2) j hb
 have p1 := Br j hb D (level := l1) ⟨q.2.1, q.2.2⟩
 have p2 := Br j hb D (level := l2) ⟨z.2.1, z.2.2⟩
 have e1 : fz 20000 g l1 = some ((pr (mq g w h l1)).map (toL (crP g l1)), 0) := by unfold fz; rw [DT, h1, p1]; rfl
 have e2 : fz 20000 g l2 = some ((pr (mq g w h l2)).map (toL (crP g l2)), 0) := by unfold fz; rw [DT, h2, p2]; rfl
 refine Ok.bde e1 (Ok.cd (fun h => by cases h) (fun _ => ?_))
 refine Ok.bde (zN j q s1.pw s1.len c1 _ rfl) ?_
 refine Ok.bde e2 (Ok.cd (fun h => by cases h) (fun _ => ?_))
 refine Ok.bde (zN j z s2.pw s2.len c2 _ rfl) ?_
 dsimp only
 obtain ⟨-, a0, m1⟩ := u7 s1.pw s1.len
 obtain ⟨-, a4, m2⟩ := u7 s2.pw s2.len
 have n1 := ye s1.pw s1.len
 have n2 := ye s2.pw s2.len
 have a3 : (0 : Rat) < (g.Step : Rat) := yb (by have := j.dim.s; omega)
 have no : ∀ O ∈ mq g w h l1, ∀ T ∈ mq g w h l2, Dis l1 l2 O T -> dO 20000 (plR g l1 O.1) (plR g l1 O.2) (plR g l2 T.1) (plR g l2 T.2) = some false := by
  intro O E T I hd
  obtain ⟨u1, j1, i1, g1⟩ := FT j hb q.1 E
  obtain ⟨u2, j2, i2, g2⟩ := FT j hb z.1 I
  obtain ⟨a1, a2⟩ := c1.k O E
  obtain ⟨b1, b2⟩ := c2.k T I
  exact Dt a3 (Bu j q a1) (Bu j q a2) (Bu j z b1) (Bu j z b2) (Cv g1 g2 hd)
 refine Ok.bd (R := fun o => o = Sum.inl ()) ?_ (by rintro o rfl; exact az.2 rfl)
 refine iG (γ := Unit) (len := (uM (mq g w h l1)).length) (fun _ x => x) (fun _ _ => True) (by omega) (by omega) (c0 := ()) trivial ?_ ?_
 · rintro again k c hk - ih
   rw [List.length_map]
   refine Ok.cd (fun _ => ?_) (fun h => by have := dcF h; omega)
   refine Ok.gd (by rw [bg]; exact decide_eq_true hk) ?_
   refine Ok.bd (R := fun o => o = Sum.inl ()) ?_ (by rintro o rfl; exact ih () trivial)
   refine iG (γ := Unit) (len := (uM (mq g w h l2)).length) (fun _ x => x) (fun _ _ => True) (by omega) (by omega) (c0 := ()) trivial ?_ ?_
   · rintro J m c hm - C
     have E := m1 _ (List.getElem_mem hk)
     have I := m2 _ (List.getElem_mem hm)
     have U := no _ E _ I
     rw [List.length_map]
     refine Ok.cd (fun _ => ?_) (fun h => by have := dcF h; omega)
     refine Ok.gd (by rw [bg]; exact decide_eq_true hm) ?_
     have g1 : gt ((uM (mq g w h l1)).map (Pc g l1)) (k : Int) = Pc g l1 (uM (mq g w h l1))[k] := rK hk
     have g2 : gt ((uM (mq g w h l2)).map (Pc g l2)) (m : Int) = Pc g l2 (uM (mq g w h l2))[m] := rK hm
     rw [g1, g2]
     refine Ok.cd (fun M => ?_) (fun M => ?_)
     · have M : l1 = l2 := by simpa using M
       refine Ok.cd (fun _ => C () trivial) (fun Y => ?_)
       have Y : k < m := by have := dcF Y; omega
       refine Ok.cd (fun _ => C () trivial) (fun hA => Ok.cd (fun _ => C () trivial) (fun hB => ?_))
       have hA := Ie hA
       have hB := H9 hB
       subst M
       exact Ok.bde (U (F2 s1.pw a0 m1 hk hm (by omega) hA hB)) (Ok.cd (fun h => by cases h) (fun _ => C () trivial))
     · have M : l1 ≠ l2 := by simpa using M
       exact Ok.bde (U fun e => absurd e M) (Ok.cd (fun h => by cases h) (fun _ => C () trivial))
   · rintro J c -
     rw [List.length_map]
     exact Ok.cd (fun h => by have := dcT h; omega) (fun _ => az.2 rfl)
 · rintro again c -
   rw [List.length_map]
   exact Ok.cd (fun h => by have := dcT h; omega) (fun _ => az.2 rfl)
end
end Go.L

