import Derived.Test.YtecdcgfclgmbpaaGreatSidL51sd
import Derived.Test.YtecdcgfclgmbpaaGreatSidLsrt
set_option linter.all false
namespace Go.L
open Go Go.Eng
theorem Ef {g : al} {w h : Nat} (hg : Gd g w h) {c : ak} {r : Rat} (he : pr (kj g w h) c.A c.B = true) (hr : Qx c.At r 16) (h0 : 0 <= r) (h1 : r <= 1) :
  ∃ p, cS 20000 g c = some (p, 0) /\ Qx p.X (oP r (pxG g c.A) (pxG g c.B)) 27 /\ Qx p.Y (oP r (pyG g c.A) (pyG g c.B)) 27 := by
 obtain ⟨i0, i1, i2⟩ := Ak hg he
 have v1 := wA (n := 20000) (by omega) (by omega) hr
 have s1 := rQ (n := 20000) (by omega) (by omega) hr
 obtain ⟨o1, eo1, ho1⟩ := n0 (n := 20000) (v := 1) (by omega) (by omega) (by omega)
 obtain ⟨k1, ek1, hk1⟩ := DT (n := 20000) (by omega) (by omega) (by omega) hr ho1
 have one : Rat.divInt 1 1 = 1 := by rw [jP]; rfl
 rw [one] at hk1
 have e1 : decide (sgn r.num < 0) = false := decide_eq_false (by have := (El (a := r)); grind)
 have e2 : decide (k1 > 0) = false := decide_eq_false (fun hh => by have := hk1.1 hh; grind)
 obtain ⟨⟨x1, bx1⟩, y1, by1⟩ := Ek hg i0 (by omega : c.A < g.Z.length)
 obtain ⟨⟨x2, bx2⟩, y2, by2⟩ := Ek hg (by omega : 0 <= c.B) i2
 have P1 : Ok (bdO (cR 20000 (pxG g c.A) (pxG g c.B) c.A c.B c.At.Num.Negative c.At.Num.Groups c.At.Den.Negative c.At.Den.Groups) fun v25 => bdO (cR 20000 (pyG g c.A) (pyG g c.B) c.A c.B c.At.Num.Negative c.At.Num.Groups c.At.Den.Negative c.At.Den.Groups) fun v27 => some (aw.mk v25 v27, (0 : Int))) fun r1 => r1.2 = 0 /\ Qx r1.1.X (oP r (pxG g c.A) (pxG g c.B)) 27 /\ Qx r1.1.Y (oP r (pyG g c.A) (pyG g c.B)) 27 :=
  Ok.bd (A4 hr bx1 bx2 _ _) fun u hu => Ok.bd (A4 hr by1 by2 _ _) fun v hv => aC.2 ⟨rfl, hu, hv⟩
 obtain ⟨⟨p, z⟩, er1, hz, hX, hY⟩ := P1
 dsimp only at hz hX hY
 subst hz
 refine ⟨p, ?_, hX, hY⟩
 unfold cS
 rw [C0 (by omega) hg, he]
 show bdO (cH 20000 c.At) _ = _
 rw [v1]
 show bdO (bdO (bE 20000 c.At) _) _ = _
 rw [s1]
 show bdO (cdO (decide (sgn r.num < 0)) _ (bdO (bJ 20000 1) _)) _ = _
 rw [e1, eo1]
 show bdO (bdO (ez 20000 c.At o1) _) _ = _
 rw [ek1]
 show cdO (decide (k1 > 0)) _ (gdO (!decide (g.Width = 0)) _) = _
 rw [e2, x1, x2, y1, y2, show (!decide (g.Width = 0)) = true by have := hg.dim.w; simp; omega]
 exact er1
structure Ce (g : al) (w h : Nat) (level : Int) (e : K2) : Prop where
 cr : Cr g.Z level e
 ab : abv g.Z level e.e0 ≠ abv g.Z level e.e1
 ed : pr (kj g w h) e.e0 e.e1 = true
theorem DM {g : al} {level : Int} {w h : Nat} (hg : Gd g w h) (hb : g.Z.any n8 = false) : Ge (nZ g w h level) (Ce g w h level) := by
 refine ⟨fun q hq => ?_⟩
 have hc := (Ax hg hb).k q hq
 unfold nZ at hq
 obtain ⟨t, ht, e⟩ := List.mem_filterMap.1 hq
 have mk : ∀ {a b : Int} {e : K2}, e = A2.mk (mn a b) (mx a b) -> (a, b) ∈ dE t -> abv g.Z level a ≠ abv g.Z level b -> Cr g.Z level e -> Ce g w h level e := by
  rintro a b e rfl hm hn hc
  have hlt := hc.lt
  refine ⟨hc, ?_, ?_⟩
  · dsimp only
    unfold mn mx
    by_cases h1 : b < a
    · rw [if_pos h1, if_neg (by omega)]; exact fun k => hn k.symm
    · by_cases h2 : a < b
      · rw [if_neg h1, if_pos h2]; exact hn
      · have : a = b := by omega
        exact absurd (by rw [this]) hn
  · unfold pr
    rw [decide_eq_true hlt, Bool.true_and, List.any_eq_true]
    refine ⟨t, ht, ?_⟩
    rw [Bool.and_eq_true, rV, rV]
    dsimp only
    simp only [dE, List.mem_cons, List.not_mem_nil, or_false, Prod.mk.injEq] at hm
    unfold mn mx
    rcases hm with ⟨rfl, rfl⟩ | ⟨rfl, rfl⟩ | ⟨rfl, rfl⟩ <;> constructor <;> split <;> simp
 obtain ⟨⟨a, b, m, h1, h2, h3⟩, c, d, m', h1', h2', h3'⟩ := oA e
 exact ⟨mk h3 m (by rw [h1, h2]; simp) hc.1, mk h3' m' (by rw [h1', h2']; simp) hc.2⟩
section
variable {g : al} {level : Int} {w h : Nat}
noncomputable def plP (g : al) (level : Int) (e : K2) : aw := ((cS 20000 g (crP g level e)).getD default).1
def xG (g : al) (level : Int) (e : K2) : Rat := oP (crE g.Z level e) (pxG g e.e0) (pxG g e.e1)
def yG (g : al) (level : Int) (e : K2) : Rat := oP (crE g.Z level e) (pyG g e.e0) (pyG g e.e1)
theorem xJ (hg : Gd g w h) (hl : okL level) {e : K2} (he : Ce g w h level e) : cS 20000 g (crP g level e) = some (plP g level e, 0) /\ Qx (plP g level e).X (xG g level e) 27 /\ Qx (plP g level e).Y (yG g level e) 27 := by
 obtain ⟨-, a, b, c⟩ := uu ⟨hl.2.1, hl.2.2⟩ he.cr
 obtain ⟨r0, r1⟩ := zh hl.1 he.ab
 obtain ⟨p, e1, e2, e3⟩ := Ef hg (c := crP g level e) (r := crE g.Z level e) (by rw [a, b]; exact he.ed) (QL.mono c (by omega)) (by grind) (by grind)
 have : plP g level e = p := by unfold plP; rw [e1]; rfl
 rw [this]
 rw [a, b] at e2 e3
 exact ⟨e1, e2, e3⟩
theorem tV {f : ak -> Option (aw × Int)} {cr : K2 -> ak} {pl : K2 -> aw} : ∀ (l : List K2) (out : List aw), (∀ e ∈ l, f (cr e) = some (pl e, 0)) -> jz f (l.map cr) out = some (out ++ l.map pl, 0)
 | [], out, _ => by simp [jz]
 | e :: l, out, h => by
  rw [List.map_cons, jz, h e (by simp)]
  show jz f (l.map cr) (out ++ [pl e]) = _
  rw [tV l _ fun x hx => h x (List.mem_cons_of_mem _ hx), List.append_assoc]; rfl
theorem wv {r : Rat} {X0 a b o St : Int} : oP r (X0 + a * St) (X0 + b * St) - Rat.divInt (X0 + o * St) 1 = (St : Rat) * (((a : Rat) + r * ((b - a : Int) : Rat)) - (o : Rat)) := by
 unfold oP
 rw [jP, jP, jP, show X0 + b * St - (X0 + a * St) = (b - a) * St by rw [Int.sub_mul]; omega]
 simp only [Rat.intCast_add, Rat.intCast_mul]
 grind
theorem xx (hg : Gd g w h) {e : K2} {o : Int} : xG g level e - Rat.divInt (g.X0 + o * g.Step) 1 = (g.Step : Rat) * (uX w g.Z level e - (o : Rat)) := by
 unfold xG pxG uX
 rw [wv, hg.W]
theorem xm (hg : Gd g w h) {e : K2} {o : Int} : yG g level e - Rat.divInt (g.Y0 + o * g.Step) 1 = (g.Step : Rat) * (uY w g.Z level e - (o : Rat)) := by
 unfold yG pyG uY
 rw [wv, hg.W]
theorem BA {on : Nat -> Bool} {st : Nat -> Int -> Int} {c : Nat -> Int} (hc : ∀ k, -1 <= c k /\ c k <= 1) (hst : ∀ k m, -1000 <= m /\ m <= 1000 -> st k m = m + c k) (r : Nat) : ∀ (j : Nat) (m : Int), (∀ k, j <= k -> k < j + r -> on k = false) -> -1000 + (r : Int) <= m -> m <= 1000 - (r : Int) -> nW on st r j m = some (m + fM ((List.range' j r).map c)) := by
 induction r with
 | zero => intro j m _ _ _; show some m = some (m + 0); rw [Int.add_zero]
 | succ r ih =>
  intro j m hon h1 h2
  have := hc j
  rw [nW, hon j (Nat.le_refl _) (by omega), hst j m (by omega)]
  show nW on st r (j + 1) (m + c j) = _
  rw [ih (j + 1) (m + c j) (fun k a b => hon k (by omega) (by omega)) (by omega) (by omega), List.range'_succ, List.map_cons]
  show some (m + c j + _) = some (m + (c j + _))
  rw [Int.add_assoc]; rfl
theorem Bo {α : Type} {F : K2 -> α} {z : K2} {l : List K2} : (List.range' 0 l.length).map (fun k => F (l.getD k z)) = l.map F := by
 apply List.ext_getElem
 · simp
 · intro k h1 h2
   have : k < l.length := by simpa using h2
   simp [List.getD, geT this]
theorem zO (hg : Gd g w h) (hg0 : mJ g = 0) (hl : okL level) {S : List (K2 × K2)} {l : List K2} (hC : Cyc S l) (h60 : l.length <= 60) (hce : ∀ e ∈ l, Ce g w h level e) {oi oj : Nat} (hi : oi < w) (hj : oj < h) (hon : ∀ e ∈ l, onO w g.Z level oi oj (e, nxt S e) = false) :
  ik 20000 g (toL (crP g level) (true, l)) (oi : Int) (oj : Int) = some (fM (l.map fun e => cO w g.Z level oi oj (e, nxt S e)), 0) := by
 have hs := hg.dim.s; have fx := sP.1 hg.dim.x; have fy := sP.1 hg.dim.y
 have hw := hg.w1; have hh := hg.h1
 have hW := hg.W; have hH := hg.H
 have b1 := qk (a := (oi : Int)) (b := g.Step) (A := 63) (B := 65536) (by omega) (by omega) (by omega) (by omega)
 have b2 := qk (a := (oj : Int)) (b := g.Step) (A := 63) (B := 65536) (by omega) (by omega) (by omega) (by omega)
 have hpl : gq 20000 g (toL (crP g level) (true, l)) = some (l.map (plP g level), 0) := by
  rw [B3 (c := toL (crP g level) (true, l)) (by show (l.map _).length <= 80; rw [List.length_map]; omega) fun x hx => by
   obtain ⟨e, he, rfl⟩ := List.mem_map.1 hx
   exact ⟨_, (xJ hg hl (hce e he)).1⟩]
  show jz (cS 20000 g) (l.map (crP g level)) [] = _
  rw [tV l [] fun e he => (xJ hg hl (hce e he)).1, List.nil_append]
 obtain ⟨u, eu, hu⟩ := n0 (n := 20000) (v := g.X0 + (oi : Int) * g.Step) (by omega) (by omega) (by omega)
 obtain ⟨v, ev, hv⟩ := n0 (n := 20000) (v := g.Y0 + (oj : Int) * g.Step) (by omega) (by omega) (by omega)
 have hA : At (l.map (plP g level)) (l.map (plP g level)) l.length (fun k => xG g level (l.getD k (A2.mk 0 0))) (fun k => yG g level (l.getD k (A2.mk 0 0))) := by
  refine ⟨List.length_map _, List.length_map _, fun j hj => ?_⟩
  obtain ⟨-, p1, p2⟩ := xJ hg hl (hce _ (mB hj (A2.mk 0 0)))
  have e : (l.map (plP g level)).getD j default = plP g level (l.getD j (A2.mk 0 0)) := by simp [List.getD, geT hj]
  rw [e]
  exact ⟨p1, p2, p1, p2⟩
 have hwd := EX hA (by omega) (p := aw.mk u v) (hu.mono (by omega)) (hv.mono (by omega))
 have sp : (0 : Rat) < (g.Step : Rat) := oN (by omega)
 have onE : ∀ k, k < l.length -> onW (fun k => xG g level (l.getD k (A2.mk 0 0))) (fun k => yG g level (l.getD k (A2.mk 0 0))) (Rat.divInt (g.X0 + (oi : Int) * g.Step) 1) (Rat.divInt (g.Y0 + (oj : Int) * g.Step) 1) l.length k = false := fun k hk => by
  unfold onW
  dsimp only
  rw [hC.go k hk, xx hg, xx hg, xm hg, xm hg, F2 sp]
  exact hon _ (mB hk _)
 have hsum : nW (onW (fun k => xG g level (l.getD k (A2.mk 0 0))) (fun k => yG g level (l.getD k (A2.mk 0 0))) (Rat.divInt (g.X0 + (oi : Int) * g.Step) 1) (Rat.divInt (g.Y0 + (oj : Int) * g.Step) 1) l.length) (stW (fun k => xG g level (l.getD k (A2.mk 0 0))) (fun k => yG g level (l.getD k (A2.mk 0 0))) (Rat.divInt (g.X0 + (oi : Int) * g.Step) 1) (Rat.divInt (g.Y0 + (oj : Int) * g.Step) 1) l.length) l.length 0 0 = some (fM (l.map fun e => cO w g.Z level oi oj (e, nxt S e))) := by
  refine (BA (c := fun k => ctr (xG g level (l.getD k (A2.mk 0 0)) - Rat.divInt (g.X0 + (oi : Int) * g.Step) 1) (yG g level (l.getD k (A2.mk 0 0)) - Rat.divInt (g.Y0 + (oj : Int) * g.Step) 1) (xG g level (l.getD ((k + 1) % l.length) (A2.mk 0 0)) - Rat.divInt (g.X0 + (oi : Int) * g.Step) 1) (yG g level (l.getD ((k + 1) % l.length) (A2.mk 0 0)) - Rat.divInt (g.Y0 + (oj : Int) * g.Step) 1)) (fun _ => Dc) (fun k m hm => Dl hm) l.length 0 0 (fun k _ hk => onE k (by omega)) (by omega) (by omega)).trans ?_
  rw [Int.zero_add, <- Bo (z := A2.mk 0 0)]
  congr 2
  refine List.map_congr_left fun k hk => ?_
  have hk : k < l.length := by rw [List.mem_range'_1] at hk; omega
  show ctr _ _ _ _ = cO w g.Z level oi oj _
  rw [hC.go k hk, xx hg, xx hg, xm hg, xm hg, E6 sp]; rfl
 rw [hsum] at hwd
 unfold ik
 rw [yj (by omega), hg0, hpl, wrap64_in (n := (oi : Int) * g.Step) (by omega) (by omega), wrap64_in (n := (oj : Int) * g.Step) (by omega) (by omega), wrap64_in (n := g.X0 + _) (by omega) (by omega), wrap64_in (n := g.Y0 + _) (by omega) (by omega), eu, ev]
 rw [decide_eq_false (show ¬ (oi : Int) < 0 by omega), decide_eq_false (show ¬ (oi : Int) >= g.Width by omega), decide_eq_false (show ¬ (oj : Int) < 0 by omega), decide_eq_false (show ¬ (oj : Int) >= g.Height by omega)]
 show bdO (fQ 20000 (l.map (plP g level)) (aw.mk u v)) _ = _
 rw [hwd]
 show cdO ((((l.map (plP g level)).length : Int) : Int) == 0) _ _ = _
 rw [show ((((l.map (plP g level)).length : Int) : Int) == 0) = false by rw [List.length_map]; have := hC.pos; simp; intro e; rw [e] at this; simp at this]
 rfl
end
end Go.L


set_option linter.all false
namespace Go.L
open Go Go.Eng
theorem zM {g : al} (hb : g.Z.any n8 = false) {k : Nat} (hk : k < g.Z.length) (hn : gt g.Z (k : Int) ≠ -2147483648) : okZ (gt g.Z (k : Int)) := by
 have h1 : gt g.Z (k : Int) ∈ g.Z := by rw [xn hk]; exact List.getElem_mem hk
 have := List.any_eq_false.1 hb _ h1
 unfold n8 ug at this
 rw [show (gt g.Z (k : Int) != -2147483648) = true by simpa using hn] at this
 simp at this
 exact ⟨by omega, by omega⟩
def bor (w h k : Nat) : Prop := k % w = 0 \/ k / w = 0 \/ k % w = w - 1 \/ k / w = h - 1
theorem FH {g : al} {w h : Nat} {level : Int} (hg : Gd g w h) (hd : ∀ k, k < g.Z.length -> gt g.Z (k : Int) ≠ -2147483648 /\ (bor w h k -> abv g.Z level (k : Int) = false)) : Lw g w h level := by
 refine ⟨fun k hk => (hd k hk).1, fun j i hj hi hc => ?_⟩
 have hm : (j * w + i) % w = i := by rw [Nat.mul_comm j w, Nat.mul_add_mod, Nat.mod_eq_of_lt hi]
 have hv : (j * w + i) / w = j := by rw [Nat.mul_comm j w, Nat.mul_add_div (by omega), Nat.div_eq_of_lt hi, Nat.add_zero]
 refine (hd (j * w + i) ?_).2 (by unfold bor; rw [hm, hv]; omega)
 rw [hg.m]
 have : (j + 1) * w <= h * w := Nat.mul_le_mul_right w (by omega)
 rw [Nat.add_mul, Nat.one_mul, Nat.mul_comm h w] at this
 omega
def Pz (g : al) (w h : Nat) (level : Int) (o : Sum Unit Bool) : Prop := o = Sum.inr true \/ (o = Sum.inl () /\ ∀ k, k < g.Z.length -> gt g.Z (k : Int) ≠ -2147483648 /\ (bor w h k -> abv g.Z level (k : Int) = false))
theorem BC (g : al) (level : Int) (at' : A2 Int) (ha : 0 <= at'.e0 /\ at'.e0 <= 255) (hb' : 0 <= at'.e1 /\ at'.e1 <= 255) : cI 20000 g level at' = some true := by
 apply Ok.eq
 unfold cI
 refine Ok.bde Bq (Ok.cd (fun h => by cases h) (fun _ => ?_))
 refine Ok.bde (b := decide ((g.Z.length : Int) <= 36)) rfl (Ok.cd (fun _ => aC.2 rfl) (fun h4 => ?_))
 have h40 : g.Z.length <= 40 := by
  have : (g.Z.length : Int) <= 36 := by simpa using h4
  omega
 refine Ok.bde (Bz g level) (Ok.cd (fun _ => aC.2 rfl) (fun h0 => ?_))
 have h0 : zx (mJ g) level = 0 := by simpa using h0
 obtain ⟨hg0, hl⟩ := CP h0
 obtain ⟨w, h, hg⟩ := FB hg0
 obtain ⟨-, -, hb⟩ := AI hg0
 have hw := hg.w1; have hh := hg.h1
 have hW := hg.W; have hH := hg.H
 refine Ok.bd (R := Pz g w h level) ?_ ?_
 · refine jQ (γ := Unit) (len := g.Z.length) (fun _ x => x) (fun m _ => ∀ k, k < m -> gt g.Z (k : Int) ≠ -2147483648 /\ (bor w h k -> abv g.Z level (k : Int) = false)) (by omega) (by omega) (c0 := ()) (fun k hk => by omega) ?_ ?_
   · rintro again k c hk hP ih
     have emod : ((k : Int)).tmod g.Width = ((k % w : Nat) : Int) := by rw [hW, yS]
     have ediv : G1 (((k : Int)).tdiv g.Width) = ((k / w : Nat) : Int) := by
      have := Nat.div_le_self k w
      rw [hW, Ev]
      generalize k / w = q at *
      exact wrap64_in (by omega) (by omega)
     have ew : G1 (g.Width - 1) = ((w - 1 : Nat) : Int) := by rw [hW, wrap64_in (by omega) (by omega)]; omega
     have eh : G1 (g.Height - 1) = ((h - 1 : Nat) : Int) := by rw [hH, wrap64_in (by omega) (by omega)]; omega
     have next : gt g.Z (k : Int) ≠ -2147483648 -> (bor w h k -> abv g.Z level (k : Int) = false) -> Ok (again (G1 ((k : Int) + 1))) (Pz g w h level) := fun h1 h2 => ih () fun m hm => by
      by_cases e : m = k
      · subst e; exact ⟨h1, h2⟩
      · exact hP m (by omega)
     have inner : Ok (cdO (((gt g.Z (k : Int)) : Int) == (-2147483648)) (some (Sum.inr (true))) (cdO (decide ((G1 (2 * (gt g.Z (k : Int)))) > level)) (some (Sum.inr (true))) (again (G1 ((k : Int) + 1))))) (Pz g w h level) := by
      refine Ok.cd (fun _ => aC.2 (.inl rfl)) (fun h1 => ?_)
      have h1 : gt g.Z (k : Int) ≠ -2147483648 := by simpa using h1
      have hz := zM hb hk h1
      unfold okZ at hz
      rw [wrap64_in (n := 2 * gt g.Z (k : Int)) (by omega) (by omega)]
      exact Ok.cd (fun _ => aC.2 (.inl rfl)) (fun h2 => next h1 fun _ => h2)
     refine Ok.cd (fun _ => ?_) (fun h => by have := dcF h; omega)
     refine Ok.gd (by rw [b9]; exact decide_eq_true hk) (Ok.gd (by rw [hW]; simp; omega) ?_)
     rw [emod, ediv, ew, eh]
     refine Ok.cd (fun _ => inner) (fun c1 => Ok.cd (fun _ => inner) (fun c2 => Ok.cd (fun _ => inner) (fun c3 => ?_)))
     refine Ok.cd (fun _ => aC.2 (.inl rfl)) (fun h1 => ?_)
     have h1 : gt g.Z (k : Int) ≠ -2147483648 := by simpa using h1
     have hz := zM hb hk h1
     unfold okZ at hz
     rw [wrap64_in (n := 2 * gt g.Z (k : Int)) (by omega) (by omega)]
     refine Ok.cd (fun _ => Ok.cd (fun _ => aC.2 (.inl rfl)) (fun h2 => next h1 fun _ => h2)) (fun c4 => next h1 fun hq => ?_)
     exfalso
     have c1 : ¬ ((k % w : Nat) : Int) = 0 := by simpa using c1
     have c2 : ¬ ((k / w : Nat) : Int) = 0 := by simpa using c2
     have c3 : ¬ ((k % w : Nat) : Int) = ((w - 1 : Nat) : Int) := by simpa using c3
     have c4 : ¬ ((k / w : Nat) : Int) = ((h - 1 : Nat) : Int) := by simpa using c4
     unfold bor at hq
     omega
   · rintro again c hP
     exact Ok.cd (fun h => by have := dcT h; omega) (fun _ => aC.2 (.inr ⟨rfl, hP⟩))
 · rintro o (rfl | ⟨rfl, hd⟩)
   · exact aC.2 rfl
   · have hL := FH hg hd
     have hlv : -2097153 <= level /\ level <= 2097153 := ⟨hl.2.1, hl.2.2⟩
     have e1 := Dt hg hb h40 hlv
     have hcy := Ga hL hg hb h40
     have hce := DM (level := level) hg hb
     have hs := Da hg hb h40 level
     obtain ⟨i0, ei⟩ : ∃ m : Nat, at'.e0 = (m : Int) := ⟨at'.e0.toNat, by omega⟩
     obtain ⟨j0, ej⟩ : ∃ m : Nat, at'.e1 = (m : Int) := ⟨at'.e1.toNat, by omega⟩
     have eI : (G1 at'.e0).tmod g.Width = ((i0 % w : Nat) : Int) := by rw [wrap64_in (by omega) (by omega), ei, hW, yS]
     have eJ : (G1 at'.e1).tmod g.Height = ((j0 % h : Nat) : Int) := by rw [wrap64_in (by omega) (by omega), ej, hH, yS]
     rw [eI, eJ]
     have hi := Nat.mod_lt i0 (show 0 < w by omega)
     have hj := Nat.mod_lt j0 (show 0 < h by omega)
     generalize i0 % w = oi at *
     generalize j0 % h = oj at *
     obtain ⟨hsum, hon⟩ := Cd hL hg hl.1 hi hj
     obtain ⟨htot, hlines⟩ := Bk hcy (cO w g.Z level oi oj)
     rw [hsum] at htot
     have hlen := Dg hs
     generalize eS : nZ g w h level = S at *
     have e3 : fq 20000 g level = some ((sq S).map (toL (crP g level)), 0) := by unfold fq; rw [Fk, h0, e1]; rfl
     refine Ok.bde e3 (Ok.cd (fun h => by cases h) (fun _ => Ok.gd (by rw [hW]; simp; omega) (Ok.gd (by rw [hH]; simp; omega) ?_)))
     have hrow : oj * w + oi < w * h := by
      have : (oj + 1) * w <= h * w := Nat.mul_le_mul_right w (by omega)
      rw [Nat.add_mul, Nat.one_mul, Nat.mul_comm h w] at this
      omega
     have hwh : w * h <= 40 := by rw [<- hg.m]; exact h40
     have ek : G1 ((G1 ((oj : Int) * g.Width)) + (oi : Int)) = cel w oj oi := by
      unfold cel
      rw [hW, <- Int.natCast_mul, wrap64_in (n := ((oj * w : Nat) : Int)) (by omega) (by omega), wrap64_in (n := ((oj * w : Nat) : Int) + (oi : Int)) (by omega) (by omega), Int.natCast_add]
     have eab : cg 20000 g level (cel w oj oi) = some (abv g.Z level (cel w oj oi)) := by
      have hk : oj * w + oi < g.Z.length := by rw [hg.m]; exact hrow
      have hz := zM hb hk (hd _ hk).1
      unfold okZ at hz
      unfold cg abv cel
      rw [b9, decide_eq_true hk, wrap64_in (by omega) (by omega)]; rfl
     rw [ek]
     have bd : ∀ x ∈ sq S, -60 <= fM (x.2.map fun e => cO w g.Z level oi oj (e, nxt S e)) /\ fM (x.2.map fun e => cO w g.Z level oi oj (e, nxt S e)) <= 60 := by
      intro x hx
      have h60 := (hlines x hx).2.2
      have : ∀ l : List K2, -(l.length : Int) <= fM (l.map fun e => cO w g.Z level oi oj (e, nxt S e)) /\ fM (l.map fun e => cO w g.Z level oi oj (e, nxt S e)) <= (l.length : Int) := by
       intro l
       induction l with
       | nil => exact ⟨Int.le_refl _, Int.le_refl _⟩
       | cons y l ih =>
        have hy : -1 <= cO w g.Z level oi oj (y, nxt S y) /\ cO w g.Z level oi oj (y, nxt S y) <= 1 := Dc
        rw [List.map_cons, List.length_cons]
        show _ <= cO w g.Z level oi oj (y, nxt S y) + fM _ /\ cO w g.Z level oi oj (y, nxt S y) + fM _ <= _
        omega
      have := this x.2
      omega
     refine Ok.bd (R := fun o => o = Sum.inl (b2 (abv g.Z level (cel w oj oi)))) ?_ ?_
     · refine jQ (γ := Int) (len := (sq S).length) (fun s x => (s, x)) (fun k s => s = fM (((sq S).take k).map fun x => fM (x.2.map fun e => cO w g.Z level oi oj (e, nxt S e))) /\ -60 * (k : Int) <= s /\ s <= 60 * (k : Int)) (by omega) (by omega) (c0 := 0) ⟨rfl, by omega, by omega⟩ ?_ ?_
       · rintro again k s hk ⟨e, b0, b1⟩ ih
         have hx := List.getElem_mem hk
         obtain ⟨c1, c2, c3⟩ := hlines _ hx
         have cb := bd _ hx
         dsimp only
         refine Ok.cd (fun _ => ?_) (fun h => by have := dcF h; rw [List.length_map] at this; omega)
         refine Ok.gd (by rw [b9]; exact decide_eq_true (by rw [List.length_map]; exact hk)) ?_
         rw [ES hk]
         have est : (sq S)[k] = (true, (sq S)[k].2) := by rw [<- c1]
         have ht := zO hg hg0 hl c2 c3 (fun e he => by
          obtain ⟨q, hq, rfl⟩ := iM.1 (c2.st e he)
          exact (hce.k q hq).1) hi hj (fun e he => by
          obtain ⟨q, hq, rfl⟩ := iM.1 (c2.st e he)
          rw [show nxt S q.1 = q.2 from pU (hcy.pw.imp fun h => h.1) hq]
          exact hon q hq)
         rw [<- est] at ht
         refine Ok.bde ht (Ok.cd (fun h => by cases h) (fun _ => Ok.cd (fun h => ?_) (fun _ => ih _ ⟨?_, ?_, ?_⟩)))
         · have : (!(sq S)[k].1) = true := h
           rw [c1] at this; cases this
         · dsimp only
           rw [wrap64_in (by omega) (by omega), sW hk, List.map_append, nG, <- e]
           show s + _ = s + (_ + 0)
           rw [Int.add_zero]
         · dsimp only
           rw [wrap64_in (by omega) (by omega)]; push_cast; omega
         · dsimp only
           rw [wrap64_in (by omega) (by omega)]; push_cast; omega
       · rintro again s ⟨e, b0, b1⟩
         rw [List.take_length, htot] at e
         dsimp only
         exact Ok.cd (fun h => by have := dcT h; rw [List.length_map] at this; omega) (fun _ => aC.2 (by rw [e]))
     · rintro o rfl
       dsimp only
       cases hab : abv g.Z level (cel w oj oi) with
       | true =>
        rw [hab] at eab
        exact Ok.cd (fun _ => Ok.bde eab (Ok.cd (fun _ => aC.2 rfl) (fun h => by cases h))) (fun h => by simp [b2] at h)
       | false =>
        rw [hab] at eab
        exact Ok.cd (fun h => by simp [b2] at h) (fun _ => Ok.cd (fun _ => Ok.bde eab (aC.2 rfl)) (fun h => by simp [b2] at h))
theorem Et {a : Int} (h : (Lit.int .u8 a).wf = true) : 0 <= a /\ a <= 255 := by
 simp [Lit.wf, IntKind.min, IntKind.max, IntKind.signed, IntKind.bits] at h
 exact h
end Go.L

