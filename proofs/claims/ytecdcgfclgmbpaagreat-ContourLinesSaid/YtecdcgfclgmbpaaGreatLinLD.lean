
import Derived.Test.YtecdcgfclgmbpaaGreatSc11Lins
import Derived.Test.YtecdcgfclgmbpaaGreatScMLins
import Derived.Test.YtecdcgfclgmbpaaGreatScRLins
import Derived.Test.YtecdcgfclgmbpaaGreatScULins
import Derived.Test.YtecdcgfclgmbpaaGreatScSLins
set_option linter.all false
set_option maxRecDepth 100000
set_option maxHeartbeats 4000000
namespace Go.L
open Go Go.Eng
structure al where
 X0 : Int
 Y0 : Int
 Step : Int
 Width : Int
 Height : Int
 Z : List Int
 deriving Inhabited

structure ah where
 Negative : Bool
 Groups : List Int
 deriving Inhabited, DecidableEq

structure ak where
 Num : ah
 Den : ah
 deriving Inhabited, DecidableEq

structure ai where
 A : Int
 B : Int
 At : ak
 deriving Inhabited, DecidableEq

structure ae where
 Closed : Bool
 Points : List ai
 deriving Inhabited, DecidableEq

structure A2 (α : Type) where
 e0 : α
 e1 : α
 deriving Inhabited, DecidableEq

def an.K (x : A2 Int) : Value := .agg #[.int .i64 x.e0, .int .i64 x.e1]
theorem an.key : Cd an.K := fun ⟨a0, a1⟩ ⟨b0, b1⟩ => by
 have h : ((⟨a0, a1⟩ : A2 Int) == ⟨b0, b1⟩) = (a0 == b0 && (a1 == b1 && true)) := by rw [Bool.eq_iff_iff]; simp
 show some _ = some _
 rw [h]

def aj.c (x : A2 Int) : List AV := [.at (.int .i64 x.e0), .at (.int .i64 x.e1)]
theorem aj.len : ∀ x, (aj.c x).length = 2 := fun _ => rfl
theorem aj.pure : ∀ x, cR (aj.c x) = [] := fun _ => rfl

structure A3 (α : Type) where
 e0 : α
 e1 : α
 e2 : α
 deriving Inhabited

def ar.c (x : A3 Int) : List AV := [.at (.int .i64 x.e0), .at (.int .i64 x.e1), .at (.int .i64 x.e2)]
theorem ar.len : ∀ x, (ar.c x).length = 3 := fun _ => rfl
theorem ar.pure : ∀ x, cR (ar.c x) = [] := fun _ => rfl

def A3.get (x : A3 Int) (j : Int) : Int := gt [x.e0, x.e1, x.e2] j
def A3.put (x : A3 Int) (j v : Int) : A3 Int := ⟨if j.toNat = 0 then v else x.e0, if j.toNat = 1 then v else x.e1, if j.toNat = 2 then v else x.e2⟩
theorem A3.FE {k : IntKind} (x : A3 Int) {j : Int} (v : Int) (h : inR j 3 = true) : setCells [.at (.int k x.e0), .at (.int k x.e1), .at (.int k x.e2)] j.toNat [.at (.int k v)] = [.at (.int k (x.put j v).e0), .at (.int k (x.put j v).e1), .at (.int k (x.put j v).e2)] := by
 have h1 := aC h
 have hj : j.toNat = 0 \/ j.toNat = 1 \/ j.toNat = 2 := by omega
 unfold A3.put
 rcases hj with e | e | e <;> simp only [e] <;> rfl

def ai.c (x : ai) : List AV := [.at (.int .i64 x.A), .at (.int .i64 x.B), .at (.bool x.At.Num.Negative), slT (iC .u32) x.At.Num.Groups, .at (.bool x.At.Den.Negative), slT (iC .u32) x.At.Den.Groups]
theorem ai.len : ∀ x, (ai.c x).length = 6 := fun _ => rfl
theorem ai.pure : ∀ x, cR (ai.c x) = [] := fun _ => rfl

def ae.c (x : ae) : List AV := [.at (.bool x.Closed), slT ai.c x.Points]
theorem ae.len : ∀ x, (ae.c x).length = 2 := fun _ => rfl
theorem ae.pure : ∀ x, cR (ae.c x) = [] := fun _ => rfl

theorem ai.inj : ∀ x y, ai.c x = ai.c y -> x = y := by
 rintro ⟨_, _, ⟨⟨_, _⟩, ⟨_, _⟩⟩⟩ ⟨_, _, ⟨⟨_, _⟩, ⟨_, _⟩⟩⟩ h
 simp only [ai.c, List.cons.injEq, AV.at.injEq, Value.int.injEq, Value.bool.injEq, true_and, and_true, dV] at h
 simp_all

structure aJ where
 X : ak
 Y : ak
 deriving Inhabited

def aJ.c (x : aJ) : List AV := [.at (.bool x.X.Num.Negative), slT (iC .u32) x.X.Num.Groups, .at (.bool x.X.Den.Negative), slT (iC .u32) x.X.Den.Groups, .at (.bool x.Y.Num.Negative), slT (iC .u32) x.Y.Num.Groups, .at (.bool x.Y.Den.Negative), slT (iC .u32) x.Y.Den.Groups]
theorem aJ.len : ∀ x, (aJ.c x).length = 8 := fun _ => rfl
theorem aJ.pure : ∀ x, cR (aJ.c x) = [] := fun _ => rfl

def aI.c (x : A2 (A2 Int)) : List AV := [.at (.int .i64 x.e0.e0), .at (.int .i64 x.e0.e1), .at (.int .i64 x.e1.e0), .at (.int .i64 x.e1.e1)]
theorem aI.len : ∀ x, (aI.c x).length = 4 := fun _ => rfl
theorem aI.pure : ∀ x, cR (aI.c x) = [] := fun _ => rfl

def aT.c (x : A2 Int) : List AV := [.at (.int .i64 x.e0), .at (.int .i64 x.e1)]
theorem aT.len : ∀ x, (aT.c x).length = 2 := fun _ => rfl
theorem aT.pure : ∀ x, cR (aT.c x) = [] := fun _ => rfl

def al.c (x : al) : List AV := [.at (.int .i64 x.X0), .at (.int .i64 x.Y0), .at (.int .i64 x.Step), .at (.int .i64 x.Width), .at (.int .i64 x.Height), slT (iC .i64) x.Z]
theorem al.len : ∀ x, (al.c x).length = 6 := fun _ => rfl
theorem al.pure : ∀ x, cR (al.c x) = [] := fun _ => rfl

def ak.c (x : ak) : List AV := [.at (.bool x.Num.Negative), slT (iC .u32) x.Num.Groups, .at (.bool x.Den.Negative), slT (iC .u32) x.Den.Groups]
theorem ak.len : ∀ x, (ak.c x).length = 4 := fun _ => rfl
theorem ak.pure : ∀ x, cR (ak.c x) = [] := fun _ => rfl

def ah.c (x : ah) : List AV := [.at (.bool x.Negative), slT (iC .u32) x.Groups]
theorem ah.len : ∀ x, (ah.c x).length = 2 := fun _ => rfl
theorem ah.pure : ∀ x, cR (ah.c x) = [] := fun _ => rfl

def cY (n : Nat) : Option (al) :=
 some (al.mk 0 0 2 3 3 [(0 : Int), (0 : Int), (0 : Int), (0 : Int), (4 : Int), (0 : Int), (0 : Int), (0 : Int), (0 : Int)])

def eR (n : Nat) (n' : Int) : Option (Bool) :=
 cdO (decide (n' >= 2)) (
 some (decide (n' <= 64))
 ) (
 some (false)
 )

def iB (n : Nat) (n' : Int) : Option (Bool) :=
 cdO (decide (n' < (-1048576))) (
 some (true)
 ) (
 some (decide (n' > 1048576))
 )

def iS (n : Nat) (z : Int) : Option (Bool) :=
 cdO ((z : Int) != (-2147483648)) (
 bdO (iB n z) fun v2 => (
 some (v2)
 )
 ) (
 some (false)
 )

def bW (n : Nat) (s : List Int) : Option (Int) :=
 bdO (aN (α := Int) (β := Sum (Unit) (Int)) n (fun again7 x_1 => (
 cdO (decide (x_1 < (s.length : Int))) (
 gdO (inR x_1 s.length) (
 bdO (iS n (gt s x_1)) fun v10 => (
 cdO v10 (
 some (Sum.inr (x_1))
 ) (
 again7 (FK (x_1 + 1))
 )
 )
 )
 ) (
 some (Sum.inl ())
 )
 )) 0) fun o13 => (
 match o13 with
 | .inl _ => (
 some ((-1))
 )
 | .inr (r0) => (
 some r0
 ))

def bh (n : Nat) (s : List Int) : Option (Bool) :=
 bdO (bW n s) fun v1 => (
 some (decide (v1 >= 0))
 )

def iW (n : Nat) (g : al) : Option (Int) :=
 bdO (eR n g.Width) fun v1 => (
 cdO (!v1) (
 some (2)
 ) (
 bdO (eR n g.Height) fun v4 => (
 cdO (!v4) (
 some (2)
 ) (
 cdO (decide (g.Step < 2)) (
 some (2)
 ) (
 cdO (decide (g.Step > 65536)) (
 some (2)
 ) (
 cdO (((g.Step.tmod 2) : Int) != 0) (
 some (2)
 ) (
 bdO (iB n g.X0) fun v10 => (
 cdO v10 (
 some (2)
 ) (
 bdO (iB n g.Y0) fun v13 => (
 cdO v13 (
 some (2)
 ) (
 cdO (((g.Z.length : Int) : Int) != (FK (g.Width * g.Height))) (
 some (4)
 ) (
 bdO (bh n g.Z) fun v17 => (
 cdO v17 (
 some (2)
 ) (
 some (0)
 )
 )
 )
 )
 )
 )
 )
 )
 )
 )
 )
 )
 )
 )

def dT (n : Nat) (g : al) (level : Int) : Option (Int) :=
 bdO (iW n g) fun v1 => (
 cdO ((v1 : Int) != 0) (
 some (v1)
 ) (
 cdO (((level.tmod 2) : Int) == 0) (
 some (1)
 ) (
 cdO (decide (level < (-2097153))) (
 some (2)
 ) (
 cdO (decide (level > 2097153)) (
 some (2)
 ) (
 some (0)
 )
 )
 )
 )
 )

def di (n : Nat) (k : Int) (p : Int) (p' : Int) (p'' : Int) (zP : Int) (vP : Int) (kd : List Int) (mO : Int) : Option (Bool) :=
 gdO (inR k kd.length) (
 some (decide ((FK (2 * (gt kd k))) > mO))
 )

def kN (n : Nat) (a : Int) (b : Int) : Option (A2 Int) :=
 some (A2.mk (mn a b) (mx a b))

def fz (n : Nat) (t : A3 Int) (c : Int) (c' : Int) (c'' : Int) (yy : Int) (uy : Int) (qx : List Int) (nP : Int) (p : List (A2 Int × A2 Int)) (p' : List (A2 Int × Bool)) : Option (List (A2 Int × A2 Int) × List (A2 Int × Bool)) :=
 bdO (aN (α := Int × Int × Int × Int × Bool × Int) (β := Int × Int × Int × Int × Bool) n (fun again110 (f_71, f_72, t_73, t_74, c_75, x_76) => (
 cdO (decide (x_76 < 3)) (
 gdO (inR x_76 3) (
 gdO (inR ((FK (x_76 + 1)).tmod 3) 3) (
 bdO (some (A3.get t ((FK (x_76 + 1)).tmod 3))) fun w115 => (
 bdO (α := Bool) (
 bdO (di n (A3.get t x_76) c c' c'' yy uy qx nP) fun v120 => (
 cdO v120 (
 bdO (di n w115 c c' c'' yy uy qx nP) fun v123 => (
 some (!v123)
 )
 ) (
 some (false)
 )
 )
 ) fun x_119 => (
 cdO x_119 (
 bdO (kN n (A3.get t x_76) w115) fun v129 => (
 again110 (v129.e0, v129.e1, t_73, t_74, true, FK (x_76 + 1))
 )
 ) (
 bdO (di n (A3.get t x_76) c c' c'' yy uy qx nP) fun v131 => (
 cdO (!v131) (
 bdO (di n w115 c c' c'' yy uy qx nP) fun v134 => (
 cdO v134 (
 bdO (kN n (A3.get t x_76) w115) fun v137 => (
 again110 (f_71, f_72, v137.e0, v137.e1, c_75, FK (x_76 + 1))
 )
 ) (
 again110 (f_71, f_72, t_73, t_74, c_75, FK (x_76 + 1))
 )
 )
 ) (
 again110 (f_71, f_72, t_73, t_74, c_75, FK (x_76 + 1))
 )
 )
 )
 )
 )
 )
 )
 ) (
 some ((f_71, f_72, t_73, t_74, c_75))
 )
 )) (0, 0, 0, 0, false, 0)) fun o139 => (
 match o139 with
 | (f_105, f_106, t_107, t_108, c_109) => (
 cdO c_109 (
 some ((cV p (A2.mk f_105 f_106) (A2.mk t_107 t_108), cV p' (A2.mk t_107 t_108) true))
 ) (
 some ((p, p'))
 )
 ))

def aY (n : Nat) (g : al) (c : Int) (c' : Int) (c'' : Int) (yy : Int) (uy : Int) (qx : List Int) (nP : Int) (vH : List (A2 Int × A2 Int)) (tF : List (A2 Int × Bool)) : Option (List (A2 Int × A2 Int) × List (A2 Int × Bool)) :=
 bdO (aN (α := List (A2 Int × A2 Int) × List (A2 Int × Bool) × Int) (β := List (A2 Int × A2 Int) × List (A2 Int × Bool)) n (fun again272 (c_182, c_183, x_184) => (
 cdO (decide (x_184 < (FK (g.Height - 1)))) (
 bdO (aN (α := List (A2 Int × A2 Int) × List (A2 Int × Bool) × Int) (β := List (A2 Int × A2 Int) × List (A2 Int × Bool)) n (fun again317 (c_275, c_276, x_277) => (
 cdO (decide (x_277 < (FK (g.Width - 1)))) (
 bdO (some (FK ((FK (x_184 * g.Width)) + x_277))) fun w320 => (
 bdO (some [A3.mk w320 (FK (w320 + 1)) (FK ((FK (w320 + g.Width)) + 1)), A3.mk w320 (FK ((FK (w320 + g.Width)) + 1)) (FK (w320 + g.Width))]) fun w322 => (
 bdO (aN (α := List (A2 Int × A2 Int) × List (A2 Int × Bool) × Int) (β := List (A2 Int × A2 Int) × List (A2 Int × Bool)) n (fun again340 (c_324, c_325, x_326) => (
 cdO (decide (x_326 < 2)) (
 gdO (inR x_326 w322.length) (
 gdO (inR (gt w322 x_326).e0 g.Z.length) (
 cdO (((gt g.Z (gt w322 x_326).e0) : Int) != (-2147483648)) (
 gdO (inR (gt w322 x_326).e1 g.Z.length) (
 cdO (((gt g.Z (gt w322 x_326).e1) : Int) != (-2147483648)) (
 gdO (inR (gt w322 x_326).e2 g.Z.length) (
 cdO (((gt g.Z (gt w322 x_326).e2) : Int) != (-2147483648)) (
 bdO (fz n (gt w322 x_326) c c' c'' yy uy qx nP c_324 c_325) fun v350 => (
 again340 (v350.1, v350.2, FK (x_326 + 1))
 )
 ) (
 again340 (c_324, c_325, FK (x_326 + 1))
 )
 )
 ) (
 again340 (c_324, c_325, FK (x_326 + 1))
 )
 )
 ) (
 again340 (c_324, c_325, FK (x_326 + 1))
 )
 )
 )
 ) (
 some ((c_324, c_325))
 )
 )) (c_275, c_276, 0)) fun o352 => (
 match o352 with
 | (c_338, c_339) => (
 again317 (c_338, c_339, FK (x_277 + 1))
 ))
 )
 )
 ) (
 some ((c_275, c_276))
 )
 )) (c_182, c_183, 0)) fun o355 => (
 match o355 with
 | (c_315, c_316) => (
 again272 (c_315, c_316, FK (x_184 + 1))
 ))
 ) (
 some ((c_182, c_183))
 )
 )) (vH, tF, 0)) fun o358 => (
 match o358 with
 | (c_270, c_271) => (
 some ((c_270, c_271))
 ))

def dO (n : Nat) (a : A2 Int) (b : A2 Int) : Option (Int) :=
 cdO ((a.e0 : Int) != b.e0) (
 some (FK (a.e0 - b.e0))
 ) (
 some (FK (a.e1 - b.e1))
 )

def aA (n : Nat) (x' : List (A2 Int)) : Option (List (A2 Int)) :=
 gdO (decide (x'.length < 4611686018427387904)) (
 sV (fun x y => dO n x y) x'
 )

def cJ (n : Nat) (n' : Int) : Option (List Int) :=
 bdO (aN (α := Int × List Int) (β := List Int) n (fun again7 (n_1, g_2) => (
 cdO (decide (n_1 > 0)) (
 gdO (decide ((g_2.length + 1) * 4 <= 140737488355328)) (
 gdO (decide (g_2.length + 1 <= 4611686018427387904)) (
 again7 (aa .u64 (n_1.tdiv 1000000000), g_2 ++ [aa .u32 (n_1.tmod 1000000000)])
 )
 )
 ) (
 some (g_2)
 )
 )) (n', [])) fun g_6 => (
 some (g_6)
 )

def dP (n : Nat) (g : List Int) : Option (List Int) :=
 bdO (aN (α := List Int) (β := List Int) n (fun again7 g_1 => (
 cdO (decide ((g_1.length : Int) > 0)) (
 gdO (inR (FK ((g_1.length : Int) - 1)) g_1.length) (
 cdO (((gt g_1 (FK ((g_1.length : Int) - 1))) : Int) == 0) (
 gdO (inS 0 (FK ((g_1.length : Int) - 1)) g_1.length) (
 again7 ((g_1.drop (0 : Int).toNat).take ((FK ((g_1.length : Int) - 1)).toNat - (0 : Int).toNat))
 )
 ) (
 some (g_1)
 )
 )
 ) (
 some (g_1)
 )
 )) g) fun g_6 => (
 some (g_6)
 )

def bI (n : Nat) (negative : Bool) (g : List Int) : Option (ah) :=
 bdO (dP n g) fun v1 => (
 cdO (((v1.length : Int) : Int) == 0) (
 some (ah.mk false [])
 ) (
 some (ah.mk negative v1)
 )
 )

def fC (n : Nat) (n' : Int) : Option (ah) :=
 cdO (decide (n' < 0)) (
 bdO (cJ n (aa .u64 (0 - (aa .u64 n')))) fun v2 => (
 bdO (bI n true v2) fun v4 => (
 some (v4)
 )
 )
 ) (
 bdO (cJ n (aa .u64 n')) fun v6 => (
 bdO (bI n false v6) fun v8 => (
 some (v8)
 )
 )
 )

def mj (n : Nat) (g : Int) : Option (Bool) :=
 some (decide (g >= 1000000000))

def bz (n : Nat) (s : List Int) : Option (Int) :=
 bdO (aN (α := Int) (β := Sum (Unit) (Int)) n (fun again7 x_1 => (
 cdO (decide (x_1 < (s.length : Int))) (
 gdO (inR x_1 s.length) (
 bdO (mj n (gt s x_1)) fun v10 => (
 cdO v10 (
 some (Sum.inr (x_1))
 ) (
 again7 (FK (x_1 + 1))
 )
 )
 )
 ) (
 some (Sum.inl ())
 )
 )) 0) fun o13 => (
 match o13 with
 | .inl _ => (
 some ((-1))
 )
 | .inr (r0) => (
 some r0
 ))

def bb (n : Nat) (s : List Int) : Option (Bool) :=
 bdO (bz n s) fun v1 => (
 some (decide (v1 >= 0))
 )

def eA (n : Nat) (x' : ah) : Option (Bool) :=
 cdO (((x'.Groups.length : Int) : Int) == 0) (
 some (!x'.Negative)
 ) (
 gdO (inR (FK ((x'.Groups.length : Int) - 1)) x'.Groups.length) (
 cdO (((gt x'.Groups (FK ((x'.Groups.length : Int) - 1))) : Int) != 0) (
 bdO (bb n x'.Groups) fun v4 => (
 some (!v4)
 )
 ) (
 some (false)
 )
 )
 )

def fb (n : Nat) (n' : ah) : Option (ah) :=
 bdO (eA n n') fun v1 => (
 cdO v1 (
 some (n')
 ) (
 bdO (fC n 0) fun v4 => (
 some (v4)
 )
 )
 )

def bG (n : Nat) (x' : ah) : Option (List Int) :=
 bdO (eA n x') fun v1 => (
 cdO (!v1) (
 some ([])
 ) (
 some (x'.Groups)
 )
 )

def dr (n : Nat) (x' : ah) : Option (Int) :=
 bdO (bG n x') fun v1 => (
 cdO (((v1.length : Int) : Int) == 0) (
 some (0)
 ) (
 cdO x'.Negative (
 some ((-1))
 ) (
 some (1)
 )
 )
 )

def cc (n : Nat) (s : List Int) : Option (List Int) :=
 gdO (decide ((0 + s.length) * 4 <= 140737488355328)) (
 gdO (decide (0 + s.length <= 4611686018427387904)) (
 some (s)
 )
 )

def dU (n : Nat) (x' : ah) : Option (ah) :=
 bdO (bG n x') fun v1 => (
 bdO (cc n v1) fun v3 => (
 bdO (bI n (!x'.Negative) v3) fun v5 => (
 some (v5)
 )
 )
 )




def jb (n : Nat) (a : List Int) (b : List Int) : Option (List Int) :=
 gdO (decide (0 <= FK ((a.length : Int) + (b.length : Int)))) (
 gdO (decide ((4 : Int) * (FK ((a.length : Int) + (b.length : Int))) <= 281474976710656)) (
 gdO (decide (FK ((a.length : Int) + (b.length : Int)) <= 9223372036854775807)) (
 bdO (aN (α := List Int × Int) (β := List Int) n (fun again25 (o_4, x_5) => (
 cdO (decide (x_5 < (a.length : Int))) (
 gdO (inR x_5 a.length) (
 bdO (aN (α := List Int × Int × Int) (β := List Int × Int) n (fun again36 (o_28, c_29, x_30) => (
 cdO (decide (x_30 < (b.length : Int))) (
 gdO (inR x_30 b.length) (
 gdO (inR (FK (x_5 + x_30)) o_28.length) (
 again36 (o_28.set (FK (x_5 + x_30)).toNat (aa .u32 ((aa .u64 ((aa .u64 ((aa .u64 (gt o_28 (FK (x_5 + x_30)))) + (aa .u64 ((aa .u64 (gt a x_5)) * (aa .u64 (gt b x_30)))))) + c_29)).tmod 1000000000)), aa .u64 ((aa .u64 ((aa .u64 ((aa .u64 (gt o_28 (FK (x_5 + x_30)))) + (aa .u64 ((aa .u64 (gt a x_5)) * (aa .u64 (gt b x_30)))))) + c_29)).tdiv 1000000000), FK (x_30 + 1))
 )
 )
 ) (
 some ((o_28, c_29))
 )
 )) (o_4, 0, 0)) fun o40 => (
 match o40 with
 | (o_34, c_35) => (
 gdO (inR (FK (x_5 + (b.length : Int))) o_34.length) (
 again25 (o_34.set (FK (x_5 + (b.length : Int))).toNat (aa .u32 c_35), FK (x_5 + 1))
 )
 ))
 )
 ) (
 some (o_4)
 )
 )) (List.replicate (FK ((a.length : Int) + (b.length : Int))).toNat ((0 : Int) : Int), 0)) fun o_24 => (
 bdO (dP n o_24) fun v47 => (
 some (v47)
 )
 )
 )
 )
 )

def nj (n : Nat) (g : List Int) : Option (List Int) :=
 bdO (aN (α := List Int) (β := List Int) n (fun again22 g_16 => (
 cdO (decide ((g_16.length : Int) > 0)) (
 gdO (inR (FK ((g_16.length : Int) - 1)) g_16.length) (
 cdO (((gt g_16 (FK ((g_16.length : Int) - 1))) : Int) == 0) (
 gdO (inS 0 (FK ((g_16.length : Int) - 1)) g_16.length) (
 again22 (g_16.take (FK ((g_16.length : Int) - 1)).toNat)
 )
 ) (
 some (g_16)
 )
 )
 ) (
 some (g_16)
 )
 )) g) fun g_21 => (
 some (g_21)
 )

def iO (n : Nat) (a : List Int) (b : List Int) : Option (List Int) :=
 gdO (decide (0 <= FK ((a.length : Int) + (b.length : Int)))) (
 gdO (decide ((4 : Int) * (FK ((a.length : Int) + (b.length : Int))) <= 281474976710656)) (
 gdO (decide (FK ((a.length : Int) + (b.length : Int)) <= 9223372036854775807)) (
 bdO (aN (α := List Int × Int) (β := List Int) n (fun again74 (o_53, x_54) => (
 cdO (decide (x_54 < (a.length : Int))) (
 gdO (inR x_54 a.length) (
 bdO (aN (α := List Int × Int × Int) (β := List Int × Int) n (fun again85 (o_77, c_78, x_79) => (
 cdO (decide (x_79 < (b.length : Int))) (
 gdO (inR x_79 b.length) (
 gdO (inR (FK (x_54 + x_79)) o_77.length) (
 again85 (o_77.set (FK (x_54 + x_79)).toNat (aa .u32 ((aa .u64 ((aa .u64 ((aa .u64 (gt o_77 (FK (x_54 + x_79)))) + (aa .u64 ((aa .u64 (gt a x_54)) * (aa .u64 (gt b x_79)))))) + c_78)).tmod 1000000000)), aa .u64 ((aa .u64 ((aa .u64 ((aa .u64 (gt o_77 (FK (x_54 + x_79)))) + (aa .u64 ((aa .u64 (gt a x_54)) * (aa .u64 (gt b x_79)))))) + c_78)).tdiv 1000000000), FK (x_79 + 1))
 )
 )
 ) (
 some ((o_77, c_78))
 )
 )) (o_53, 0, 0)) fun o89 => (
 match o89 with
 | (o_83, c_84) => (
 gdO (inR (FK (x_54 + (b.length : Int))) o_83.length) (
 again74 (o_83.set (FK (x_54 + (b.length : Int))).toNat (aa .u32 c_84), FK (x_54 + 1))
 )
 ))
 )
 ) (
 some (o_53)
 )
 )) (List.replicate (FK ((a.length : Int) + (b.length : Int))).toNat ((0 : Int) : Int), 0)) fun o_73 => (
 bdO (nj n o_73) fun v96 => (
 some (v96)
 )
 )
 )
 )
 )

def fZ (n : Nat) (g : List Int) (i : Int) : Option (Int) :=
 cdO (decide (i < (g.length : Int))) (
 gdO (inR i g.length) (
 some ((gt g i))
 )
 ) (
 some (0)
 )

def iF (n : Nat) (a : List Int) (b : List Int) : Option (List Int × List Int) :=
 gdO (inR (FK ((b.length : Int) - 1)) b.length) (
 gdO (!decide (aa .u64 ((aa .u64 (gt b (FK ((b.length : Int) - 1)))) + 1) = 0)) (
 bdO (iO n a [aa .u32 (aa .u64 ((1000000000 : Int).tdiv (aa .u64 ((aa .u64 (gt b (FK ((b.length : Int) - 1)))) + 1))))]) fun v3 => (
 bdO (iO n b [aa .u32 (aa .u64 ((1000000000 : Int).tdiv (aa .u64 ((aa .u64 (gt b (FK ((b.length : Int) - 1)))) + 1))))]) fun v5 => (
 gdO (decide ((v3.length + 1) * 4 <= 140737488355328)) (
 gdO (decide (v3.length + 1 <= 4611686018427387904)) (
 bdO (α := List Int) (
 cdO (decide (((v3 ++ [(0 : Int)]).length : Int) <= (a.length : Int))) (
 gdO (decide (((v3 ++ [(0 : Int)]).length + 1) * 4 <= 140737488355328)) (
 gdO (decide ((v3 ++ [(0 : Int)]).length + 1 <= 4611686018427387904)) (
 some ((v3 ++ [(0 : Int)]) ++ [(0 : Int)])
 )
 )
 ) (
 some (v3 ++ [(0 : Int)])
 )
 ) fun u_9 => (
 gdO (decide (0 <= FK ((u_9.length : Int) - (v5.length : Int)))) (
 gdO (decide ((4 : Int) * (FK ((u_9.length : Int) - (v5.length : Int))) <= 281474976710656)) (
 gdO (decide (FK ((u_9.length : Int) - (v5.length : Int)) <= 9223372036854775807)) (
 bdO (aN (α := List Int × List Int × Int) (β := List Int × List Int) n (fun again129 (q_19, u_20, j_21) => (
 cdO (decide (j_21 >= 0)) (
 bdO (fZ n u_20 (FK (j_21 + (v5.length : Int)))) fun v132 => (
 gdO (inR (FK ((FK (j_21 + (v5.length : Int))) - 1)) u_20.length) (
 gdO (inR (FK ((v5.length : Int) - 1)) v5.length) (
 gdO (!decide (aa .u64 (gt v5 (FK ((v5.length : Int) - 1))) = 0)) (
 bdO (aN (α := Int × Int) (β := Int) n (fun again165 (g_156, r_157) => (
 cdO (decide (g_156 >= 1000000000)) (
 cdO (decide ((aa .u64 (r_157 + (aa .u64 (gt v5 (FK ((v5.length : Int) - 1)))))) >= 1000000000)) (
 some (aa .u64 (g_156 - 1))
 ) (
 again165 (aa .u64 (g_156 - 1), aa .u64 (r_157 + (aa .u64 (gt v5 (FK ((v5.length : Int) - 1))))))
 )
 ) (
 gdO (inR (FK ((v5.length : Int) - 2)) v5.length) (
 gdO (inR (FK ((FK (j_21 + (v5.length : Int))) - 2)) u_20.length) (
 cdO (decide ((aa .u64 (g_156 * (aa .u64 (gt v5 (FK ((v5.length : Int) - 2)))))) > (aa .u64 ((aa .u64 (r_157 * 1000000000)) + (aa .u64 (gt u_20 (FK ((FK (j_21 + (v5.length : Int))) - 2)))))))) (
 cdO (decide ((aa .u64 (r_157 + (aa .u64 (gt v5 (FK ((v5.length : Int) - 1)))))) >= 1000000000)) (
 some (aa .u64 (g_156 - 1))
 ) (
 again165 (aa .u64 (g_156 - 1), aa .u64 (r_157 + (aa .u64 (gt v5 (FK ((v5.length : Int) - 1))))))
 )
 ) (
 some (g_156)
 )
 )
 )
 )
 )) (aa .u64 ((aa .u64 ((aa .u64 ((aa .u64 v132) * 1000000000)) + (aa .u64 (gt u_20 (FK ((FK (j_21 + (v5.length : Int))) - 1)))))).tdiv (aa .u64 (gt v5 (FK ((v5.length : Int) - 1))))), (aa .u64 ((aa .u64 ((aa .u64 v132) * 1000000000)) + (aa .u64 (gt u_20 (FK ((FK (j_21 + (v5.length : Int))) - 1)))))).tmod (aa .u64 (gt v5 (FK ((v5.length : Int) - 1)))))) fun g_164 => (
 bdO (aN (α := List Int × Int × Int × Int) (β := List Int × Int × Int) n (fun again205 (u_194, b_195, c_196, x_197) => (
 cdO (decide (x_197 < (v5.length : Int))) (
 gdO (inR x_197 v5.length) (
 gdO (inR (FK (x_197 + j_21)) u_194.length) (
 cdO (decide ((FK ((FK ((FK (gt u_194 (FK (x_197 + j_21)))) - b_195)) - (FK ((aa .u64 ((aa .u64 (g_164 * (aa .u64 (gt v5 x_197)))) + c_196)).tmod 1000000000)))) < 0)) (
 again205 (u_194.set (FK (x_197 + j_21)).toNat (aa .u32 (FK ((FK ((FK ((FK (gt u_194 (FK (x_197 + j_21)))) - b_195)) - (FK ((aa .u64 ((aa .u64 (g_164 * (aa .u64 (gt v5 x_197)))) + c_196)).tmod 1000000000)))) + 1000000000))), 1, aa .u64 ((aa .u64 ((aa .u64 (g_164 * (aa .u64 (gt v5 x_197)))) + c_196)).tdiv 1000000000), FK (x_197 + 1))
 ) (
 again205 (u_194.set (FK (x_197 + j_21)).toNat (aa .u32 (FK ((FK ((FK (gt u_194 (FK (x_197 + j_21)))) - b_195)) - (FK ((aa .u64 ((aa .u64 (g_164 * (aa .u64 (gt v5 x_197)))) + c_196)).tmod 1000000000))))), 0, aa .u64 ((aa .u64 ((aa .u64 (g_164 * (aa .u64 (gt v5 x_197)))) + c_196)).tdiv 1000000000), FK (x_197 + 1))
 )
 )
 )
 ) (
 some ((u_194, b_195, c_196))
 )
 )) (u_20, 0, 0, 0)) fun o210 => (
 match o210 with
 | (u_202, b_203, c_204) => (
 gdO (inR (FK (j_21 + (v5.length : Int))) u_202.length) (
 cdO (decide ((FK ((FK ((FK (gt u_202 (FK (j_21 + (v5.length : Int))))) - b_203)) - (FK c_204))) < 0)) (
 bdO (aN (α := List Int × Int × Int) (β := List Int × Int) n (fun again224 (u_215, c_216, x_217) => (
 cdO (decide (x_217 < (v5.length : Int))) (
 gdO (inR (FK (x_217 + j_21)) u_215.length) (
 gdO (inR x_217 v5.length) (
 cdO (decide ((aa .u32 ((aa .u32 ((gt u_215 (FK (x_217 + j_21))) + (gt v5 x_217))) + c_216)) >= 1000000000)) (
 again224 (u_215.set (FK (x_217 + j_21)).toNat (aa .u32 ((aa .u32 ((aa .u32 ((gt u_215 (FK (x_217 + j_21))) + (gt v5 x_217))) + c_216)) - 1000000000)), 1, FK (x_217 + 1))
 ) (
 again224 (u_215.set (FK (x_217 + j_21)).toNat (aa .u32 ((aa .u32 ((gt u_215 (FK (x_217 + j_21))) + (gt v5 x_217))) + c_216)), 0, FK (x_217 + 1))
 )
 )
 )
 ) (
 some ((u_215, c_216))
 )
 )) (u_202.set (FK (j_21 + (v5.length : Int))).toNat (aa .u32 (FK ((FK ((FK ((FK (gt u_202 (FK (j_21 + (v5.length : Int))))) - b_203)) - (FK c_204))) + 1000000000))), 0, 0)) fun o229 => (
 match o229 with
 | (u_222, c_223) => (
 gdO (inR (FK (j_21 + (v5.length : Int))) u_222.length) (
 gdO (inR j_21 q_19.length) (
 again129 (q_19.set j_21.toNat (aa .u32 (aa .u64 (g_164 - 1))), u_222.set (FK (j_21 + (v5.length : Int))).toNat ((aa .u32 ((gt u_222 (FK (j_21 + (v5.length : Int)))) + c_223)).tmod 1000000000), FK (j_21 - 1))
 )
 )
 ))
 ) (
 gdO (inR j_21 q_19.length) (
 again129 (q_19.set j_21.toNat (aa .u32 g_164), u_202.set (FK (j_21 + (v5.length : Int))).toNat (aa .u32 (FK ((FK ((FK (gt u_202 (FK (j_21 + (v5.length : Int))))) - b_203)) - (FK c_204)))), FK (j_21 - 1))
 )
 )
 )
 ))
 )
 )
 )
 )
 )
 ) (
 some ((q_19, u_20))
 )
 )) (List.replicate (FK ((u_9.length : Int) - (v5.length : Int))).toNat ((0 : Int) : Int), u_9, FK ((FK ((u_9.length : Int) - (v5.length : Int))) - 1))) fun o235 => (
 match o235 with
 | (q_127, u_128) => (
 gdO (inS 0 (v5.length : Int) u_128.length) (
 bdO (dP n (u_128.take (v5.length : Int).toNat)) fun v239 => (
 bdO (fk n v239 (aa .u32 (aa .u64 ((1000000000 : Int).tdiv (aa .u64 ((aa .u64 (gt b (FK ((b.length : Int) - 1)))) + 1)))))) fun v241 => (
 bdO (dP n q_127) fun v243 => (
 some ((v243, v241.1))
 )
 )
 )
 )
 ))
 )
 )
 )
 )
 )
 )
 )
 )
 )
 )

def gD (n : Nat) (a : List Int) (b : List Int) : Option (List Int × List Int) :=
 bdO (fF n a b) fun v1 => (
 cdO (decide (v1 < 0)) (
 some (([], a))
 ) (
 bdO (gQ n a) fun v4 => (
 bdO (gQ n b) fun v6 => (
 cdO v4.2 (
 cdO v6.2 (
 gdO (!decide (v6.1 = 0)) (
 bdO (cJ n (aa .u64 (v4.1.tdiv v6.1))) fun v11 => (
 bdO (cJ n (v4.1.tmod v6.1)) fun v13 => (
 some ((v11, v13))
 )
 )
 )
 ) (
 cdO (((b.length : Int) : Int) == 1) (
 gdO (inR 0 b.length) (
 bdO (fk n a (gt b 0)) fun v17 => (
 bdO (cJ n (aa .u64 v17.2)) fun v19 => (
 some ((v17.1, v19))
 )
 )
 )
 ) (
 bdO (iF n a b) fun v21 => (
 some ((v21.1, v21.2))
 )
 )
 )
 ) (
 cdO (((b.length : Int) : Int) == 1) (
 gdO (inR 0 b.length) (
 bdO (fk n a (gt b 0)) fun v25 => (
 bdO (cJ n (aa .u64 v25.2)) fun v27 => (
 some ((v25.1, v27))
 )
 )
 )
 ) (
 bdO (iF n a b) fun v29 => (
 some ((v29.1, v29.2))
 )
 )
 )
 )
 )
 )
 )

def iA (n : Nat) (x' : ah) (y : ah) : Option (ah) :=
 bdO (bG n x') fun v1 => (
 bdO (bG n y) fun v3 => (
 bdO (aN (α := List Int × List Int) (β := Sum (List Int) (ah)) n (fun again34 (a_5, b_6) => (
 cdO (decide ((b_6.length : Int) > 0)) (
 bdO (gQ n a_5) fun v36 => (
 bdO (gQ n b_6) fun v38 => (
 cdO v36.2 (
 cdO v38.2 (
 bdO (aN (α := Int × Int) (β := Int) n (fun again47 (m_42, n_43) => (
 cdO (decide (n_43 > 0)) (
 gdO (!decide (n_43 = 0)) (
 again47 (n_43, m_42.tmod n_43)
 )
 ) (
 some (m_42)
 )
 )) (v36.1, v38.1)) fun m_46 => (
 bdO (cJ n m_46) fun v53 => (
 bdO (bI n false v53) fun v55 => (
 some (Sum.inr (v55))
 )
 )
 )
 ) (
 bdO (gD n a_5 b_6) fun v57 => (
 again34 (b_6, v57.2)
 )
 )
 ) (
 bdO (gD n a_5 b_6) fun v59 => (
 again34 (b_6, v59.2)
 )
 )
 )
 )
 ) (
 some (Sum.inl a_5)
 )
 )) (v1, v3)) fun o61 => (
 match o61 with
 | .inl a_33 => (
 bdO (cc n a_33) fun v64 => (
 bdO (bI n false v64) fun v66 => (
 some (v66)
 )
 )
 )
 | .inr (r0) => (
 some r0
 ))
 )
 )

def jO (n : Nat) (a : List Int) (b : List Int) : Option (List Int) :=
 gdO (decide (0 <= FK ((mx (a.length : Int) (b.length : Int)) + 1))) (
 gdO (decide ((4 : Int) * (FK ((mx (a.length : Int) (b.length : Int)) + 1)) <= 281474976710656)) (
 gdO (decide (FK ((mx (a.length : Int) (b.length : Int)) + 1) <= 9223372036854775807)) (
 bdO (aN (α := List Int × Int × Int) (β := List Int) n (fun again16 (o_4, c_5, x_6) => (
 cdO (decide (x_6 < ((List.replicate (FK ((mx (a.length : Int) (b.length : Int)) + 1)).toNat ((0 : Int) : Int)).length : Int))) (
 bdO (fZ n a x_6) fun v18 => (
 bdO (fZ n b x_6) fun v20 => (
 cdO (decide ((aa .u32 ((aa .u32 (v18 + v20)) + c_5)) >= 1000000000)) (
 gdO (inR x_6 o_4.length) (
 again16 (o_4.set x_6.toNat (aa .u32 ((aa .u32 ((aa .u32 (v18 + v20)) + c_5)) - 1000000000)), 1, FK (x_6 + 1))
 )
 ) (
 gdO (inR x_6 o_4.length) (
 again16 (o_4.set x_6.toNat (aa .u32 ((aa .u32 (v18 + v20)) + c_5)), 0, FK (x_6 + 1))
 )
 )
 )
 )
 ) (
 some (o_4)
 )
 )) (List.replicate (FK ((mx (a.length : Int) (b.length : Int)) + 1)).toNat ((0 : Int) : Int), 0, 0)) fun o_15 => (
 bdO (dP n o_15) fun v28 => (
 some (v28)
 )
 )
 )
 )
 )

def gV (n : Nat) (a : List Int) (b : List Int) : Option (List Int) :=
 gdO (decide (0 <= (a.length : Int))) (
 gdO (decide ((4 : Int) * (a.length : Int) <= 281474976710656)) (
 gdO (decide ((a.length : Int) <= 9223372036854775807)) (
 bdO (aN (α := List Int × Int × Int) (β := List Int) n (fun again15 (o_4, b_5, x_6) => (
 cdO (decide (x_6 < ((List.replicate (a.length : Int).toNat ((0 : Int) : Int)).length : Int))) (
 bdO (fZ n b x_6) fun v17 => (
 gdO (inR x_6 a.length) (
 cdO (decide ((gt a x_6) < (aa .u32 (v17 + b_5)))) (
 gdO (inR x_6 o_4.length) (
 again15 (o_4.set x_6.toNat (aa .u32 ((aa .u32 ((gt a x_6) + 1000000000)) - (aa .u32 (v17 + b_5)))), 1, FK (x_6 + 1))
 )
 ) (
 gdO (inR x_6 o_4.length) (
 again15 (o_4.set x_6.toNat (aa .u32 ((gt a x_6) - (aa .u32 (v17 + b_5)))), 0, FK (x_6 + 1))
 )
 )
 )
 )
 ) (
 some (o_4)
 )
 )) (List.replicate (a.length : Int).toNat ((0 : Int) : Int), 0, 0)) fun o_14 => (
 bdO (dP n o_14) fun v26 => (
 some (v26)
 )
 )
 )
 )
 )

def de (n : Nat) (x' : ah) (y : ah) : Option (ah × ah × Int) :=
 bdO (bG n x') fun v1 => (
 bdO (bG n y) fun v3 => (
 cdO (((v3.length : Int) : Int) == 0) (
 some ((ah.mk false [], ah.mk false [], 14))
 ) (
 bdO (gD n v1 v3) fun v6 => (
 bdO (cc n v6.2) fun v8 => (
 cdO (decide ((v8.length : Int) > 0)) (
 cdO (x'.Negative != y.Negative) (
 bdO (jO n v6.1 [(1 : Int)]) fun v12 => (
 bdO (gV n v3 v8) fun v14 => (
 bdO (bI n true v12) fun v16 => (
 bdO (bI n y.Negative v14) fun v18 => (
 some ((v16, v18, 0))
 )
 )
 )
 )
 ) (
 bdO (bI n false v6.1) fun v20 => (
 bdO (bI n y.Negative v8) fun v22 => (
 some ((v20, v22, 0))
 )
 )
 )
 ) (
 bdO (bI n (x'.Negative != y.Negative) v6.1) fun v24 => (
 bdO (bI n y.Negative v8) fun v26 => (
 some ((v24, v26, 0))
 )
 )
 )
 )
 )
 )
 )
 )

def ee (n : Nat) (num : ah) (den : ah) : Option (ak) :=
 bdO (dr n den) fun v1 => (
 cdO (decide (v1 < 0)) (
 bdO (dU n num) fun v4 => (
 bdO (dU n den) fun v6 => (
 bdO (iA n v4 v6) fun v8 => (
 bdO (de n v4 v8) fun v10 => (
 bdO (de n v6 v8) fun v12 => (
 some (ak.mk v10.1 v12.1)
 )
 )
 )
 )
 )
 ) (
 bdO (iA n num den) fun v14 => (
 bdO (de n num v14) fun v16 => (
 bdO (de n den v14) fun v18 => (
 some (ak.mk v16.1 v18.1)
 )
 )
 )
 )
 )

def kR (n : Nat) (num : ah) (den : ah) : Option (ak × Int) :=
 bdO (fb n num) fun v1 => (
 bdO (fb n den) fun v3 => (
 bdO (dr n v3) fun v5 => (
 cdO ((v5 : Int) == 0) (
 some ((ak.mk (ah.mk false []) (ah.mk false []), 14))
 ) (
 bdO (ee n v1 v3) fun v8 => (
 some ((v8, 0))
 )
 )
 )
 )
 )

def gN (n : Nat) (n' : Int) (d : Int) : Option (ak × Int) :=
 bdO (fC n n') fun v1 => (
 bdO (fC n d) fun v3 => (
 bdO (kR n v1 v3) fun v5 => (
 some ((v5.1, v5.2))
 )
 )
 )

def cC (n : Nat) (g : al) (level : Int) (e : A2 Int) : Option (ai) :=
 gdO (inR e.e0 g.Z.length) (
 gdO (inR e.e1 g.Z.length) (
 bdO (gN n (FK (level - (FK (2 * (gt g.Z e.e0))))) (FK (2 * (FK ((gt g.Z e.e1) - (gt g.Z e.e0)))))) fun v3 => (
 some (ai.mk e.e0 e.e1 v3.1)
 )
 )
 )

def dC (n : Nat) (start : A2 Int) (closed : Bool) (p : List (A2 Int × Bool)) (p' : Int) (p'' : Int) (zP : Int) (vP : Int) (kd : Int) (mO : List Int) (l8 : Int) (ig : List (A2 Int × A2 Int)) (fD : List ae) : Option (List (A2 Int × Bool) × List ae) :=
 bdO (aN (α := List (A2 Int × Bool) × List ai × Int × Int) (β := List (A2 Int × Bool) × List ai) n (fun again39 (p_27, c_28, a_29, a_30) => (
 bdO (cC n (al.mk p' p'' zP vP kd mO) l8 (A2.mk a_29 a_30)) fun v40 => (
 gdO (decide ((c_28.length + 1) * 80 <= 140737488355328)) (
 gdO (decide (c_28.length + 1 <= 4611686018427387904)) (
 cdO (!(dG ig (A2.mk a_29 a_30))) (
 some ((cV p_27 (A2.mk a_29 a_30) true, c_28 ++ [v40]))
 ) (
 cdO (getM false (cV p_27 (A2.mk a_29 a_30) true) (getM (A2.mk 0 0 : A2 Int) ig (A2.mk a_29 a_30))) (
 some ((cV p_27 (A2.mk a_29 a_30) true, c_28 ++ [v40]))
 ) (
 again39 (cV p_27 (A2.mk a_29 a_30) true, c_28 ++ [v40], (getM (A2.mk 0 0 : A2 Int) ig (A2.mk a_29 a_30)).e0, (getM (A2.mk 0 0 : A2 Int) ig (A2.mk a_29 a_30)).e1)
 )
 )
 )
 )
 )
 )) (p, [], start.e0, start.e1)) fun o46 => (
 match o46 with
 | (p_37, c_38) => (
 gdO (decide ((fD.length + 1) * 32 <= 140737488355328)) (
 gdO (decide (fD.length + 1 <= 4611686018427387904)) (
 some ((p_37, fD ++ [ae.mk closed c_38]))
 )
 )
 ))

def eu (n : Nat) (c : ae) : Option (A2 Int) :=
 gdO (inR 0 c.Points.length) (
 some (A2.mk (gt c.Points 0).A (gt c.Points 0).B)
 )

def iN (n : Nat) (a : ae) (b : ae) : Option (Int) :=
 bdO (eu n a) fun v1 => (
 bdO (eu n b) fun v3 => (
 bdO (dO n v1 v3) fun v5 => (
 some (v5)
 )
 )
 )

def aL (n : Nat) (x' : List ae) : Option (List ae) :=
 gdO (decide (x'.length < 4611686018427387904)) (
 sV (fun x y => iN n x y) x'
 )

noncomputable def fU (n : Nat) (g : al) (level : Int) : Option (List ae) :=
 bdO (aY n g g.X0 g.Y0 g.Step g.Width g.Height g.Z level ([] : List (A2 Int × A2 Int)) ([] : List (A2 Int × Bool))) fun v1 => (
 zb (ε := A2 Int × A2 Int) (σ := List (A2 Int)) v1.1 (fun s_16 e12 => (
 gdO (decide ((s_16.length + 1) * 16 <= 140737488355328)) (
 gdO (decide (s_16.length + 1 <= 4611686018427387904)) (
 some (s_16 ++ [e12.1])
 )
 )
 )) [] fun s_16 => (
 bdO (aA n s_16) fun v21 => (
 gdO (decide (v21.length = s_16.length)) (
 bdO (aN (α := List (A2 Int × Bool) × List ae × Int) (β := List (A2 Int × Bool) × List ae) n (fun again56 (d_45, o_46, x_47) => (
 cdO (decide (x_47 < (s_16.length : Int))) (
 gdO (inR x_47 v21.length) (
 cdO (!(getM false v1.2 (gt v21 x_47))) (
 bdO (dC n (gt v21 x_47) false d_45 g.X0 g.Y0 g.Step g.Width g.Height g.Z level v1.1 o_46) fun v61 => (
 again56 (v61.1, v61.2, FK (x_47 + 1))
 )
 ) (
 again56 (d_45, o_46, FK (x_47 + 1))
 )
 )
 ) (
 some ((d_45, o_46))
 )
 )) (([] : List (A2 Int × Bool)), [], 0)) fun o63 => (
 match o63 with
 | (d_54, o_55) => (
 bdO (aN (α := List (A2 Int × Bool) × List ae × Int) (β := List ae) n (fun again76 (d_66, o_67, x_68) => (
 cdO (decide (x_68 < (v21.length : Int))) (
 gdO (inR x_68 v21.length) (
 cdO (!(getM false d_66 (gt v21 x_68))) (
 bdO (dC n (gt v21 x_68) true d_66 g.X0 g.Y0 g.Step g.Width g.Height g.Z level v1.1 o_67) fun v81 => (
 again76 (v81.1, v81.2, FK (x_68 + 1))
 )
 ) (
 again76 (d_66, o_67, FK (x_68 + 1))
 )
 )
 ) (
 some (o_67)
 )
 )) (d_54, o_55, 0)) fun o_75 => (
 bdO (aL n o_75) fun v86 => (
 gdO (decide (v86.length = o_75.length)) (
 some (v86)
 )
 )
 )
 ))
 )
 )
 )
 )

noncomputable def ew (n : Nat) (g : al) (level : Int) : Option (List ae × Int) :=
 bdO (dT n g level) fun v1 => (
 cdO ((v1 : Int) != 0) (
 some (([], v1))
 ) (
 bdO (fU n g level) fun v4 => (
 some ((v4, 0))
 )
 )
 )

def cG (n : Nat) (n' : Int) : Option (ak) :=
 bdO (fC n n') fun v1 => (
 bdO (fC n 1) fun v3 => (
 some (ak.mk v1 v3)
 )
 )

def lN (n : Nat) (x' : Int) : Option (Bool) :=
 some ((x' : Int) != x')

def me (n : Nat) (x' : Int) (y : Int) : Option (Int) :=
 bdO (lN n x') fun v1 => (
 bdO (lN n y) fun v3 => (
 cdO v1 (
 cdO v3 (
 some (0)
 ) (
 some ((-1))
 )
 ) (
 cdO v3 (
 some (1)
 ) (
 cdO (decide (x' < y)) (
 some ((-1))
 ) (
 cdO (decide (x' > y)) (
 some (1)
 ) (
 some (0)
 )
 )
 )
 )
 )
 )

def j6 (n : Nat) (x' : ah) (y : ah) : Option (Int) :=
 bdO (dr n x') fun v1 => (
 bdO (dr n y) fun v3 => (
 cdO ((v1 : Int) != v3) (
 bdO (me n v1 v3) fun v6 => (
 some (v6)
 )
 ) (
 bdO (bG n x') fun v8 => (
 bdO (bG n y) fun v10 => (
 bdO (fF n v8 v10) fun v12 => (
 cdO x'.Negative (
 some (FK (0 - v12))
 ) (
 some (v12)
 )
 )
 )
 )
 )
 )
 )

def fo (n : Nat) (x' : ak) : Option (Bool) :=
 bdO (eA n x'.Num) fun v1 => (
 cdO (!v1) (
 some (false)
 ) (
 bdO (eA n x'.Den) fun v4 => (
 cdO (!v4) (
 some (false)
 ) (
 bdO (dr n x'.Den) fun v7 => (
 cdO (decide (v7 <= 0)) (
 some (false)
 ) (
 bdO (iA n x'.Num x'.Den) fun v10 => (
 bdO (fC n 1) fun v12 => (
 bdO (j6 n v10 v12) fun v14 => (
 some ((v14 : Int) == 0)
 )
 )
 )
 )
 )
 )
 )
 )
 )

def ml (n : Nat) (x' : ak) : Option (ak) :=
 bdO (dU n x'.Num) fun v1 => (
 bdO (dU n v1) fun v3 => (
 bdO (dU n x'.Den) fun v5 => (
 bdO (dU n v5) fun v7 => (
 some (ak.mk v3 v7)
 )
 )
 )
 )

def ct (n : Nat) (x' : ak) : Option (ak) :=
 bdO (fo n x') fun v1 => (
 cdO v1 (
 bdO (ml n x') fun v4 => (
 some (v4)
 )
 ) (
 bdO (cG n 0) fun v6 => (
 some (v6)
 )
 )
 )

def cy (n : Nat) (x' : ak) : Option (Int) :=
 bdO (ct n x') fun v1 => (
 bdO (dr n v1.Num) fun v3 => (
 some (v3)
 )
 )

def pd (n : Nat) (x' : ak) : Option (ak) :=
 bdO (ct n x') fun v1 => (
 bdO (dU n v1.Num) fun v3 => (
 some (ak.mk v3 v1.Den)
 )
 )

def dZ (n : Nat) (x' : ah) (y : ah) : Option (ah) :=
 bdO (bG n x') fun v1 => (
 bdO (bG n y) fun v3 => (
 bdO (jb n v1 v3) fun v5 => (
 bdO (bI n (x'.Negative != y.Negative) v5) fun v7 => (
 some (v7)
 )
 )
 )
 )

def qy (n : Nat) (negative : Bool) (a : List Int) (other : Bool) (b : List Int) : Option (ah) :=
 cdO (negative == other) (
 bdO (jO n a b) fun v2 => (
 bdO (bI n negative v2) fun v4 => (
 some (v4)
 )
 )
 ) (
 bdO (fF n a b) fun v6 => (
 cdO (decide (v6 >= 0)) (
 bdO (gV n a b) fun v9 => (
 bdO (bI n negative v9) fun v11 => (
 some (v11)
 )
 )
 ) (
 bdO (gV n b a) fun v13 => (
 bdO (bI n other v13) fun v15 => (
 some (v15)
 )
 )
 )
 )
 )

def qK (n : Nat) (x' : ah) (y : ah) : Option (ah) :=
 bdO (bG n x') fun v1 => (
 bdO (bG n y) fun v3 => (
 bdO (qy n x'.Negative v1 y.Negative v3) fun v5 => (
 some (v5)
 )
 )
 )

def gM (n : Nat) (x' : ak) (y : ak) : Option (ak) :=
 bdO (ct n x') fun v1 => (
 bdO (ct n y) fun v3 => (
 bdO (dZ n v1.Num v3.Den) fun v5 => (
 bdO (dZ n v3.Num v1.Den) fun v7 => (
 bdO (qK n v5 v7) fun v9 => (
 bdO (dZ n v1.Den v3.Den) fun v11 => (
 bdO (ee n v9 v11) fun v13 => (
 some (v13)
 )
 )
 )
 )
 )
 )
 )

def dM (n : Nat) (x' : ak) (y : ak) : Option (ak) :=
 bdO (pd n y) fun v1 => (
 bdO (gM n x' v1) fun v3 => (
 some (v3)
 )
 )

def j7 (n : Nat) (p : ak) (p' : ak) (p'' : ak) (tip : ak) : Option (ak) :=
 bdO (cG n 1) fun v1 => (
 bdO (dM n v1 tip) fun v3 => (
 some (v3)
 )
 )

def dQ (n : Nat) (x' : ak) (y : ak) : Option (ak) :=
 bdO (ct n x') fun v1 => (
 bdO (ct n y) fun v3 => (
 bdO (dZ n v1.Num v3.Num) fun v5 => (
 bdO (dZ n v1.Den v3.Den) fun v7 => (
 bdO (ee n v5 v7) fun v9 => (
 some (v9)
 )
 )
 )
 )
 )

def mm (n : Nat) (x' : ak) (y : ak) : Option (ak × Int) :=
 bdO (ct n x') fun v1 => (
 bdO (ct n y) fun v3 => (
 bdO (dr n v3.Num) fun v5 => (
 cdO ((v5 : Int) == 0) (
 some ((ak.mk (ah.mk false []) (ah.mk false []), 14))
 ) (
 bdO (dZ n v1.Num v3.Den) fun v8 => (
 bdO (dZ n v1.Den v3.Num) fun v10 => (
 bdO (ee n v8 v10) fun v12 => (
 some ((v12, 0))
 )
 )
 )
 )
 )
 )
 )

def n4 (n : Nat) (a : ak) (b : ak) (c : ak) : Option (ak) :=
 bdO (dQ n a a) fun v1 => (
 bdO (dM n a b) fun v3 => (
 bdO (dM n a c) fun v5 => (
 bdO (dQ n v3 v5) fun v7 => (
 bdO (mm n v1 v7) fun v9 => (
 some (v9.1)
 )
 )
 )
 )
 )

def ky (n : Nat) (t : A3 Int) (p : Int) (p' : Int) (p'' : Int) (zP : Int) (vP : Int) (kd : List Int) (mO : Int) (l8 : Bool) (ig : List Int) (fD : Bool) (nO : List Int) : Option (Bool × List Int × Bool × List Int) :=
 bdO (α := Bool × List Int × Bool × List Int × Int) (
 gdO (inR t.e0 kd.length) (
 bdO (gN n (FK ((FK (2 * (gt kd t.e0))) - mO)) 2) fun v285 => (
 bdO (cy n v285.1) fun v287 => (
 cdO (decide (v287 > 0)) (
 some ((v285.1.Num.Negative, v285.1.Num.Groups, v285.1.Den.Negative, v285.1.Den.Groups, 1))
 ) (
 some ((v285.1.Num.Negative, v285.1.Num.Groups, v285.1.Den.Negative, v285.1.Den.Groups, 0))
 )
 )
 )
 )
 ) fun o290 => (
 match o290 with
 | (h_279, h_280, h_281, h_282, u_283) => (
 bdO (α := Bool × List Int × Bool × List Int × Int) (
 gdO (inR t.e1 kd.length) (
 bdO (gN n (FK ((FK (2 * (gt kd t.e1))) - mO)) 2) fun v299 => (
 bdO (cy n v299.1) fun v301 => (
 cdO (decide (v301 > 0)) (
 some ((v299.1.Num.Negative, v299.1.Num.Groups, v299.1.Den.Negative, v299.1.Den.Groups, FK (u_283 + 1)))
 ) (
 some ((v299.1.Num.Negative, v299.1.Num.Groups, v299.1.Den.Negative, v299.1.Den.Groups, u_283))
 )
 )
 )
 )
 ) fun o304 => (
 match o304 with
 | (h_293, h_294, h_295, h_296, u_297) => (
 bdO (α := Bool × List Int × Bool × List Int × Int) (
 gdO (inR t.e2 kd.length) (
 bdO (gN n (FK ((FK (2 * (gt kd t.e2))) - mO)) 2) fun v313 => (
 bdO (cy n v313.1) fun v315 => (
 cdO (decide (v315 > 0)) (
 some ((v313.1.Num.Negative, v313.1.Num.Groups, v313.1.Den.Negative, v313.1.Den.Groups, FK (u_297 + 1)))
 ) (
 some ((v313.1.Num.Negative, v313.1.Num.Groups, v313.1.Den.Negative, v313.1.Den.Groups, u_297))
 )
 )
 )
 )
 ) fun o318 => (
 match o318 with
 | (h_307, h_308, h_309, h_310, u_311) => (
 cdO ((u_311 : Int) == 0) (
 some ((l8, ig, fD, nO))
 ) (
 cdO ((u_311 : Int) == 3) (
 bdO (cG n 0) fun v346 => (
 bdO (j7 n (ak.mk (ah.mk h_279 h_280) (ah.mk h_281 h_282)) (ak.mk (ah.mk h_293 h_294) (ah.mk h_295 h_296)) (ak.mk (ah.mk h_307 h_308) (ah.mk h_309 h_310)) v346) fun v348 => (
 bdO (gM n (ak.mk (ah.mk l8 ig) (ah.mk fD nO)) v348) fun v350 => (
 some ((v350.Num.Negative, v350.Num.Groups, v350.Den.Negative, v350.Den.Groups))
 )
 )
 )
 ) (
 bdO (aN (α := Bool × List Int × Bool × List Int × Bool × List Int × Bool × List Int × Bool × List Int × Bool × List Int) (β := Bool × List Int × Bool × List Int × Bool × List Int × Bool × List Int × Bool × List Int × Bool × List Int) n (fun again443 (h_406, h_407, h_408, h_409, h_410, h_411, h_412, h_413, h_414, h_415, h_416, h_417) => (
 bdO (α := Sum (Unit) (Unit)) (
 bdO (cy n (ak.mk (ah.mk h_406 h_407) (ah.mk h_408 h_409))) fun v446 => (
 cdO ((decide (v446 > 0)) != ((u_311 : Int) == 1)) (
 some (Sum.inr (()))
 ) (
 bdO (cy n (ak.mk (ah.mk h_410 h_411) (ah.mk h_412 h_413))) fun v449 => (
 bdO (cy n (ak.mk (ah.mk h_414 h_415) (ah.mk h_416 h_417))) fun v451 => (
 cdO ((decide (v449 > 0)) != (decide (v451 > 0))) (
 some (Sum.inr (()))
 ) (
 some (Sum.inl ())
 )
 )
 )
 )
 )
 ) fun o454 => (
 match o454 with
 | .inl _ => (
 some ((h_406, h_407, h_408, h_409, h_410, h_411, h_412, h_413, h_414, h_415, h_416, h_417))
 )
 | .inr (_) => (
 again443 (h_410, h_411, h_412, h_413, h_414, h_415, h_416, h_417, h_406, h_407, h_408, h_409)
 ))
 )) (h_279, h_280, h_281, h_282, h_293, h_294, h_295, h_296, h_307, h_308, h_309, h_310)) fun o457 => (
 match o457 with
 | (h_431, h_432, h_433, h_434, h_435, h_436, h_437, h_438, h_439, h_440, h_441, h_442) => (
 bdO (n4 n (ak.mk (ah.mk h_431 h_432) (ah.mk h_433 h_434)) (ak.mk (ah.mk h_435 h_436) (ah.mk h_437 h_438)) (ak.mk (ah.mk h_439 h_440) (ah.mk h_441 h_442))) fun v460 => (
 cdO ((u_311 : Int) == 2) (
 bdO (j7 n (ak.mk (ah.mk h_431 h_432) (ah.mk h_433 h_434)) (ak.mk (ah.mk h_435 h_436) (ah.mk h_437 h_438)) (ak.mk (ah.mk h_439 h_440) (ah.mk h_441 h_442)) v460) fun v463 => (
 bdO (gM n (ak.mk (ah.mk l8 ig) (ah.mk fD nO)) v463) fun v465 => (
 some ((v465.Num.Negative, v465.Num.Groups, v465.Den.Negative, v465.Den.Groups))
 )
 )
 ) (
 bdO (gM n (ak.mk (ah.mk l8 ig) (ah.mk fD nO)) v460) fun v467 => (
 some ((v467.Num.Negative, v467.Num.Groups, v467.Den.Negative, v467.Den.Groups))
 )
 )
 )
 ))
 )
 )
 ))
 ))
 ))

def dc (n : Nat) (g : al) (c : Int) (c' : Int) (c'' : Int) (yy : Int) (uy : Int) (qx : List Int) (nP : Int) (vH : Bool) (tF : List Int) (zA : Bool) (yI : List Int) : Option (Bool × List Int × Bool × List Int) :=
 bdO (aN (α := Bool × List Int × Bool × List Int × Int) (β := Bool × List Int × Bool × List Int) n (fun again318 (c_212, c_213, c_214, c_215, x_216) => (
 cdO (decide (x_216 < (FK (g.Height - 1)))) (
 bdO (aN (α := Bool × List Int × Bool × List Int × Int) (β := Bool × List Int × Bool × List Int) n (fun again371 (c_321, c_322, c_323, c_324, x_325) => (
 cdO (decide (x_325 < (FK (g.Width - 1)))) (
 bdO (some (FK ((FK (x_216 * g.Width)) + x_325))) fun w374 => (
 bdO (some [A3.mk w374 (FK (w374 + 1)) (FK ((FK (w374 + g.Width)) + 1)), A3.mk w374 (FK ((FK (w374 + g.Width)) + 1)) (FK (w374 + g.Width))]) fun w376 => (
 bdO (aN (α := Bool × List Int × Bool × List Int × Int) (β := Bool × List Int × Bool × List Int) n (fun again398 (c_378, c_379, c_380, c_381, x_382) => (
 cdO (decide (x_382 < 2)) (
 gdO (inR x_382 w376.length) (
 gdO (inR (gt w376 x_382).e0 g.Z.length) (
 cdO (((gt g.Z (gt w376 x_382).e0) : Int) != (-2147483648)) (
 gdO (inR (gt w376 x_382).e1 g.Z.length) (
 cdO (((gt g.Z (gt w376 x_382).e1) : Int) != (-2147483648)) (
 gdO (inR (gt w376 x_382).e2 g.Z.length) (
 cdO (((gt g.Z (gt w376 x_382).e2) : Int) != (-2147483648)) (
 bdO (ky n (gt w376 x_382) c c' c'' yy uy qx nP c_378 c_379 c_380 c_381) fun v408 => (
 again398 (v408.1, v408.2.1, v408.2.2.1, v408.2.2.2, FK (x_382 + 1))
 )
 ) (
 again398 (c_378, c_379, c_380, c_381, FK (x_382 + 1))
 )
 )
 ) (
 again398 (c_378, c_379, c_380, c_381, FK (x_382 + 1))
 )
 )
 ) (
 again398 (c_378, c_379, c_380, c_381, FK (x_382 + 1))
 )
 )
 )
 ) (
 some ((c_378, c_379, c_380, c_381))
 )
 )) (c_321, c_322, c_323, c_324, 0)) fun o410 => (
 match o410 with
 | (c_394, c_395, c_396, c_397) => (
 again371 (c_394, c_395, c_396, c_397, FK (x_325 + 1))
 ))
 )
 )
 ) (
 some ((c_321, c_322, c_323, c_324))
 )
 )) (c_212, c_213, c_214, c_215, 0)) fun o413 => (
 match o413 with
 | (c_367, c_368, c_369, c_370) => (
 again318 (c_367, c_368, c_369, c_370, FK (x_216 + 1))
 ))
 ) (
 some ((c_212, c_213, c_214, c_215))
 )
 )) (vH, tF, zA, yI, 0)) fun o416 => (
 match o416 with
 | (c_314, c_315, c_316, c_317) => (
 some ((c_314, c_315, c_316, c_317))
 ))

def cm (n : Nat) (g : al) (level : Int) : Option (ak) :=
 bdO (cG n 0) fun v1 => (
 bdO (dc n g g.X0 g.Y0 g.Step g.Width g.Height g.Z level v1.Num.Negative v1.Num.Groups v1.Den.Negative v1.Den.Groups) fun v3 => (
 bdO (gN n (FK (g.Step * g.Step)) 2) fun v5 => (
 bdO (dQ n (ak.mk (ah.mk v3.1 v3.2.1) (ah.mk v3.2.2.1 v3.2.2.2)) v5.1) fun v7 => (
 some (v7)
 )
 )
 )
 )

def nV (n : Nat) (g : al) (level : Int) : Option (ak × Int) :=
 bdO (dT n g level) fun v1 => (
 cdO ((v1 : Int) != 0) (
 some ((ak.mk (ah.mk false []) (ah.mk false []), v1))
 ) (
 bdO (cm n g level) fun v4 => (
 some ((v4, 0))
 )
 )
 )

def jG (n : Nat) (s : List Int) (v : Int) : Option (Int) :=
 bdO (aN (α := Int) (β := Sum (Unit) (Int)) n (fun again5 x_1 => (
 cdO (decide (x_1 < (s.length : Int))) (
 gdO (inR x_1 s.length) (
 cdO ((v : Int) == (gt s x_1)) (
 some (Sum.inr (x_1))
 ) (
 again5 (FK (x_1 + 1))
 )
 )
 ) (
 some (Sum.inl ())
 )
 )) 0) fun o9 => (
 match o9 with
 | .inl _ => (
 some ((-1))
 )
 | .inr (r0) => (
 some r0
 ))

def c7 (n : Nat) (s : List Int) (v : Int) : Option (Bool) :=
 bdO (jG n s v) fun v1 => (
 some (decide (v1 >= 0))
 )

def ka (n : Nat) (t : A3 Int) (p : Bool) (p' : Int) (p'' : Int) : Option (Bool) :=
 cdO p (
 some (true)
 ) (
 bdO (c7 n [t.e0, t.e1, t.e2] p') fun v9 => (
 cdO v9 (
 bdO (c7 n [t.e0, t.e1, t.e2] p'') fun v12 => (
 some (v12)
 )
 ) (
 some (false)
 )
 )
 )

def c6 (n : Nat) (g : al) (c : Bool) (c' : Int) (c'' : Int) : Option (Bool) :=
 bdO (aN (α := Bool × Int) (β := Bool) n (fun again249 (c_167, x_168) => (
 cdO (decide (x_168 < (FK (g.Height - 1)))) (
 bdO (aN (α := Bool × Int) (β := Bool) n (fun again290 (c_252, x_253) => (
 cdO (decide (x_253 < (FK (g.Width - 1)))) (
 bdO (some (FK ((FK (x_168 * g.Width)) + x_253))) fun w293 => (
 bdO (some [A3.mk w293 (FK (w293 + 1)) (FK ((FK (w293 + g.Width)) + 1)), A3.mk w293 (FK ((FK (w293 + g.Width)) + 1)) (FK (w293 + g.Width))]) fun w295 => (
 bdO (aN (α := Bool × Int) (β := Bool) n (fun again311 (c_297, x_298) => (
 cdO (decide (x_298 < 2)) (
 gdO (inR x_298 w295.length) (
 gdO (inR (gt w295 x_298).e0 g.Z.length) (
 cdO (((gt g.Z (gt w295 x_298).e0) : Int) != (-2147483648)) (
 gdO (inR (gt w295 x_298).e1 g.Z.length) (
 cdO (((gt g.Z (gt w295 x_298).e1) : Int) != (-2147483648)) (
 gdO (inR (gt w295 x_298).e2 g.Z.length) (
 cdO (((gt g.Z (gt w295 x_298).e2) : Int) != (-2147483648)) (
 bdO (ka n (gt w295 x_298) c_297 c' c'') fun v321 => (
 again311 (v321, FK (x_298 + 1))
 )
 ) (
 again311 (c_297, FK (x_298 + 1))
 )
 )
 ) (
 again311 (c_297, FK (x_298 + 1))
 )
 )
 ) (
 again311 (c_297, FK (x_298 + 1))
 )
 )
 )
 ) (
 some (c_297)
 )
 )) (c_252, 0)) fun c_310 => (
 again290 (c_310, FK (x_253 + 1))
 )
 )
 )
 ) (
 some (c_252)
 )
 )) (c_167, 0)) fun c_289 => (
 again249 (c_289, FK (x_168 + 1))
 )
 ) (
 some (c_167)
 )
 )) (c, 0)) fun c_248 => (
 some (c_248)
 )

def nr (n : Nat) (g : al) (a : Int) (b : Int) : Option (Bool) :=
 cdO (decide (a < 0)) (
 some (false)
 ) (
 cdO (decide (a >= b)) (
 some (false)
 ) (
 cdO (decide (b >= (g.Z.length : Int))) (
 some (false)
 ) (
 bdO (c6 n g false a b) fun v4 => (
 some (v4)
 )
 )
 )
 )

def jP (n : Nat) (x' : ak) (y : ak) : Option (Int) :=
 bdO (ct n x') fun v1 => (
 bdO (ct n y) fun v3 => (
 bdO (dZ n v1.Num v3.Den) fun v5 => (
 bdO (dZ n v3.Num v1.Den) fun v7 => (
 bdO (j6 n v5 v7) fun v9 => (
 some (v9)
 )
 )
 )
 )
 )

def gy (n : Nat) (a : Int) (b : Int) (p : Int) (p' : Int) (p'' : Bool) (zP : List Int) (vP : Bool) (kd : List Int) : Option (ak) :=
 bdO (cG n a) fun v1 => (
 bdO (cG n (FK (b - a))) fun v3 => (
 bdO (dQ n (ak.mk (ah.mk p'' zP) (ah.mk vP kd)) v3) fun v5 => (
 bdO (gM n v1 v5) fun v7 => (
 some (v7)
 )
 )
 )
 )

def nY (n : Nat) (g : al) (c : ai) : Option (aJ × Int) :=
 bdO (nr n g c.A c.B) fun v1 => (
 cdO (!v1) (
 some ((aJ.mk (ak.mk (ah.mk false []) (ah.mk false [])) (ak.mk (ah.mk false []) (ah.mk false [])), 6))
 ) (
 bdO (fo n c.At) fun v5 => (
 cdO (!v5) (
 some ((aJ.mk (ak.mk (ah.mk false []) (ah.mk false [])) (ak.mk (ah.mk false []) (ah.mk false [])), 1))
 ) (
 bdO (α := Bool) (
 bdO (cy n c.At) fun v12 => (
 cdO (decide (v12 < 0)) (
 some (true)
 ) (
 bdO (cG n 1) fun v15 => (
 bdO (jP n c.At v15) fun v17 => (
 some (decide (v17 > 0))
 )
 )
 )
 )
 ) fun x_11 => (
 cdO x_11 (
 some ((aJ.mk (ak.mk (ah.mk false []) (ah.mk false [])) (ak.mk (ah.mk false []) (ah.mk false [])), 2))
 ) (
 gdO (!decide (g.Width = 0)) (
 bdO (gy n (FK (g.X0 + (FK ((c.A.tmod g.Width) * g.Step)))) (FK (g.X0 + (FK ((c.B.tmod g.Width) * g.Step)))) c.A c.B c.At.Num.Negative c.At.Num.Groups c.At.Den.Negative c.At.Den.Groups) fun v25 => (
 bdO (gy n (FK (g.Y0 + (FK ((FK (c.A.tdiv g.Width)) * g.Step)))) (FK (g.Y0 + (FK ((FK (c.B.tdiv g.Width)) * g.Step)))) c.A c.B c.At.Num.Negative c.At.Num.Groups c.At.Den.Negative c.At.Den.Groups) fun v27 => (
 some ((aJ.mk v25 v27, 0))
 )
 )
 )
 )
 )
 )
 )
 )
 )

def mZ (n : Nat) (g : al) (c : ae) : Option (List aJ × Int) :=
 bdO (aN (α := List aJ × Int) (β := Sum (List aJ) (List aJ × Int)) n (fun again12 (o_1, x_2) => (
 cdO (decide (x_2 < (c.Points.length : Int))) (
 gdO (inR x_2 c.Points.length) (
 bdO (nY n g (gt c.Points x_2)) fun v16 => (
 cdO ((v16.2 : Int) != 0) (
 some (Sum.inr (([], v16.2)))
 ) (
 gdO (decide ((o_1.length + 1) * 128 <= 140737488355328)) (
 gdO (decide (o_1.length + 1 <= 4611686018427387904)) (
 again12 (o_1 ++ [v16.1], FK (x_2 + 1))
 )
 )
 )
 )
 )
 ) (
 some (Sum.inl o_1)
 )
 )) ([], 0)) fun o21 => (
 match o21 with
 | .inl o_11 => (
 some ((o_11, 0))
 )
 | .inr (r0) => (
 some r0
 ))

def mi (n : Nat) (polygon : List aJ) (o : aJ) : Option (Int × Bool) :=
 bdO (aN (α := Int × Int) (β := Sum (Int) (Int × Bool)) n (fun again52 (n_1, x_2) => (
 cdO (decide (x_2 < (polygon.length : Int))) (
 gdO (inR x_2 polygon.length) (
 gdO (!decide ((polygon.length : Int) = 0)) (
 gdO (inR ((FK (x_2 + 1)).tmod (polygon.length : Int)) polygon.length) (
 bdO (dM n (gt polygon x_2).X o.X) fun v58 => (
 bdO (dM n (gt polygon x_2).Y o.Y) fun v60 => (
 bdO (dM n (gt polygon ((FK (x_2 + 1)).tmod (polygon.length : Int))).X o.X) fun v62 => (
 bdO (dM n (gt polygon ((FK (x_2 + 1)).tmod (polygon.length : Int))).Y o.Y) fun v64 => (
 bdO (dQ n v58 v64) fun v66 => (
 bdO (dQ n v60 v62) fun v68 => (
 bdO (dM n v66 v68) fun v70 => (
 bdO (cy n v70) fun v72 => (
 bdO (α := Sum (Unit) (Int × Bool)) (
 cdO ((v72 : Int) == 0) (
 bdO (dQ n v58 v62) fun v75 => (
 bdO (dQ n v60 v64) fun v77 => (
 bdO (gM n v75 v77) fun v79 => (
 bdO (cy n v79) fun v81 => (
 cdO (decide (v81 <= 0)) (
 some (Sum.inr ((0, true)))
 ) (
 some (Sum.inl ())
 )
 )
 )
 )
 )
 ) (
 some (Sum.inl ())
 )
 ) fun o84 => (
 match o84 with
 | .inl _ => (
 bdO (cy n v60) fun v87 => (
 bdO (cy n v64) fun v89 => (
 bdO (α := Bool) (
 cdO (decide (v87 <= 0)) (
 cdO (!(decide (v89 <= 0))) (
 some (decide (v72 > 0))
 ) (
 some (false)
 )
 ) (
 some (false)
 )
 ) fun x_91 => (
 cdO x_91 (
 again52 (FK (n_1 + 1), FK (x_2 + 1))
 ) (
 cdO (!(decide (v87 <= 0))) (
 cdO (decide (v89 <= 0)) (
 cdO (decide (v72 < 0)) (
 again52 (FK (n_1 - 1), FK (x_2 + 1))
 ) (
 again52 (n_1, FK (x_2 + 1))
 )
 ) (
 again52 (n_1, FK (x_2 + 1))
 )
 ) (
 again52 (n_1, FK (x_2 + 1))
 )
 )
 )
 )
 )
 )
 | .inr (r0) => (
 some (Sum.inr (r0))
 ))
 )
 )
 )
 )
 )
 )
 )
 )
 )
 )
 )
 ) (
 some (Sum.inl n_1)
 )
 )) (0, 0)) fun o101 => (
 match o101 with
 | .inl n_51 => (
 some ((n_51, false))
 )
 | .inr (r0) => (
 some r0
 ))

def oq (n : Nat) (g : al) (l : ae) (i : Int) (j : Int) : Option (Int × Int) :=
 bdO (iW n g) fun v1 => (
 cdO ((v1 : Int) != 0) (
 some ((0, v1))
 ) (
 bdO (α := Bool) (
 cdO (decide (i < 0)) (
 some (true)
 ) (
 cdO (decide (i >= g.Width)) (
 some (true)
 ) (
 cdO (decide (j < 0)) (
 some (true)
 ) (
 some (decide (j >= g.Height))
 )
 )
 )
 ) fun x_5 => (
 cdO x_5 (
 some ((0, 2))
 ) (
 cdO (!l.Closed) (
 some ((0, 11))
 ) (
 bdO (mZ n g l) fun v16 => (
 cdO ((v16.2 : Int) != 0) (
 some ((0, v16.2))
 ) (
 bdO (cG n (FK (g.X0 + (FK (i * g.Step))))) fun v20 => (
 bdO (cG n (FK (g.Y0 + (FK (j * g.Step))))) fun v22 => (
 bdO (mi n v16.1 (aJ.mk v20 v22)) fun v24 => (
 cdO v24.2 (
 some ((0, 13))
 ) (
 cdO (((v16.1.length : Int) : Int) == 0) (
 some ((0, 13))
 ) (
 some ((v24.1, 0))
 )
 )
 )
 )
 )
 )
 )
 )
 )
 )
 )
 )

def aV (n : Nat) (negative : Bool) (l : List Int) : Option (ah) :=
 bdO (aN (α := Int) (β := Int) n (fun again6 n_1 => (
 cdO (decide (n_1 > 0)) (
 gdO (inR (FK (n_1 - 1)) l.length) (
 cdO (((gt l (FK (n_1 - 1))) : Int) == 0) (
 again6 (FK (n_1 - 1))
 ) (
 some (n_1)
 )
 )
 ) (
 some (n_1)
 )
 )) (l.length : Int)) fun n_5 => (
 cdO negative (
 gdO (inS 0 n_5 l.length) (
 gdO (decide ((0 + ((l.drop (0 : Int).toNat).take (n_5.toNat - (0 : Int).toNat)).length) * 4 <= 140737488355328)) (
 gdO (decide (0 + ((l.drop (0 : Int).toNat).take (n_5.toNat - (0 : Int).toNat)).length <= 4611686018427387904)) (
 some (ah.mk (decide (n_5 > 0)) ((l.drop (0 : Int).toNat).take (n_5.toNat - (0 : Int).toNat)))
 )
 )
 )
 ) (
 gdO (inS 0 n_5 l.length) (
 gdO (decide ((0 + ((l.drop (0 : Int).toNat).take (n_5.toNat - (0 : Int).toNat)).length) * 4 <= 140737488355328)) (
 gdO (decide (0 + ((l.drop (0 : Int).toNat).take (n_5.toNat - (0 : Int).toNat)).length <= 4611686018427387904)) (
 some (ah.mk false ((l.drop (0 : Int).toNat).take (n_5.toNat - (0 : Int).toNat)))
 )
 )
 )
 )
 )

def fV (n : Nat) (n' : Int) : Option (ah) :=
 cdO (decide (n' < 0)) (
 bdO (aN (α := Int × List Int) (β := List Int) n (fun again8 (u_2, l_3) => (
 cdO (decide (u_2 > 0)) (
 gdO (decide ((l_3.length + 1) * 4 <= 140737488355328)) (
 gdO (decide (l_3.length + 1 <= 4611686018427387904)) (
 again8 (aa .u64 (u_2.tdiv 1000000000), l_3 ++ [aa .u32 (u_2.tmod 1000000000)])
 )
 )
 ) (
 some (l_3)
 )
 )) (aa .u64 ((aa .u64 (FK (0 - (FK (n' + 1))))) + 1), [])) fun l_7 => (
 bdO (aV n true l_7) fun v15 => (
 some (v15)
 )
 )
 ) (
 bdO (aN (α := Int × List Int) (β := List Int) n (fun again23 (u_17, l_18) => (
 cdO (decide (u_17 > 0)) (
 gdO (decide ((l_18.length + 1) * 4 <= 140737488355328)) (
 gdO (decide (l_18.length + 1 <= 4611686018427387904)) (
 again23 (aa .u64 (u_17.tdiv 1000000000), l_18 ++ [aa .u32 (u_17.tmod 1000000000)])
 )
 )
 ) (
 some (l_18)
 )
 )) (aa .u64 n', [])) fun l_22 => (
 bdO (aV n false l_22) fun v30 => (
 some (v30)
 )
 )
 )

def bY (n : Nat) (n' : Int) : Option (ah) :=
 bdO (fV n n') fun v1 => (
 some (v1)
 )

def cz (n : Nat) (x' : ah) : Option (Bool) :=
 bdO (aN (α := Int) (β := Sum (Unit) (Bool)) n (fun again5 i_1 => (
 cdO (decide (i_1 < (x'.Groups.length : Int))) (
 gdO (inR i_1 x'.Groups.length) (
 cdO (decide ((gt x'.Groups i_1) >= 1000000000)) (
 some (Sum.inr (false))
 ) (
 again5 (FK (i_1 + 1))
 )
 )
 ) (
 some (Sum.inl ())
 )
 )) 0) fun o9 => (
 match o9 with
 | .inl _ => (
 cdO (((x'.Groups.length : Int) : Int) == 0) (
 some (!x'.Negative)
 ) (
 gdO (inR (FK ((x'.Groups.length : Int) - 1)) x'.Groups.length) (
 some (((gt x'.Groups (FK ((x'.Groups.length : Int) - 1))) : Int) != 0)
 )
 )
 )
 | .inr (r0) => (
 some r0
 ))

def bf (n : Nat) (x' : ah) : Option (ah) :=
 bdO (cz n x') fun v1 => (
 cdO (!v1) (
 some (ah.mk false [])
 ) (
 gdO (decide ((0 + x'.Groups.length) * 4 <= 140737488355328)) (
 gdO (decide (0 + x'.Groups.length <= 4611686018427387904)) (
 some (x')
 )
 )
 )
 )

def cw (n : Nat) (x' : ah) : Option (Int) :=
 bdO (bf n x') fun v1 => (
 cdO (((v1.Groups.length : Int) : Int) == 0) (
 some (0)
 ) (
 cdO v1.Negative (
 some ((-1))
 ) (
 some (1)
 )
 )
 )

def eO (n : Nat) (a : List Int) (d : Int) : Option (List Int × Int) :=
 gdO (decide (0 <= (a.length : Int))) (
 gdO (decide ((4 : Int) * (a.length : Int) <= 281474976710656)) (
 gdO (decide ((a.length : Int) <= 9223372036854775807)) (
 bdO (aN (α := List Int × Int × Int) (β := List Int × Int) n (fun again13 (q_4, r_5, i_6) => (
 cdO (decide (i_6 >= 0)) (
 gdO (inR i_6 a.length) (
 gdO (!decide (d = 0)) (
 gdO (inR i_6 q_4.length) (
 again13 (q_4.set i_6.toNat (aa .u32 (aa .u64 ((aa .u64 ((aa .u64 (r_5 * 1000000000)) + (aa .u64 (gt a i_6)))).tdiv d))), (aa .u64 ((aa .u64 (r_5 * 1000000000)) + (aa .u64 (gt a i_6)))).tmod d, FK (i_6 - 1))
 )
 )
 )
 ) (
 some ((q_4, r_5))
 )
 )) (List.replicate (a.length : Int).toNat ((0 : Int) : Int), 0, FK ((a.length : Int) - 1))) fun o18 => (
 match o18 with
 | (q_11, r_12) => (
 bdO (aV n false q_11) fun v21 => (
 some ((v21.Groups, r_12))
 )
 ))
 )
 )
 )

def cM (n : Nat) (a : List Int) (b : List Int) : Option (Int) :=
 cdO (((a.length : Int) : Int) != (b.length : Int)) (
 cdO (decide ((a.length : Int) < (b.length : Int))) (
 some ((-1))
 ) (
 some (1)
 )
 ) (
 bdO (aN (α := Int) (β := Sum (Unit) (Int)) n (fun again9 i_3 => (
 cdO (decide (i_3 >= 0)) (
 gdO (inR i_3 a.length) (
 gdO (inR i_3 b.length) (
 cdO (decide ((gt a i_3) < (gt b i_3))) (
 some (Sum.inr ((-1)))
 ) (
 cdO (decide ((gt a i_3) > (gt b i_3))) (
 some (Sum.inr (1))
 ) (
 again9 (FK (i_3 - 1))
 )
 )
 )
 )
 ) (
 some (Sum.inl ())
 )
 )) (FK ((a.length : Int) - 1))) fun o15 => (
 match o15 with
 | .inl _ => (
 some (0)
 )
 | .inr (r0) => (
 some r0
 ))
 )

def b7 (n : Nat) (a : List Int) (d : Int) : Option (List Int) :=
 bdO (aN (α := List Int × Int × Int) (β := List Int × Int) n (fun again10 (o_1, c_2, i_3) => (
 cdO (decide (i_3 < (a.length : Int))) (
 gdO (inR i_3 a.length) (
 gdO (decide ((o_1.length + 1) * 4 <= 140737488355328)) (
 gdO (decide (o_1.length + 1 <= 4611686018427387904)) (
 again10 (o_1 ++ [aa .u32 ((aa .u64 ((aa .u64 ((aa .u64 (gt a i_3)) * d)) + c_2)).tmod 1000000000)], aa .u64 ((aa .u64 ((aa .u64 ((aa .u64 (gt a i_3)) * d)) + c_2)).tdiv 1000000000), FK (i_3 + 1))
 )
 )
 )
 ) (
 some ((o_1, c_2))
 )
 )) ([], 0, 0)) fun o15 => (
 match o15 with
 | (o_8, c_9) => (
 gdO (decide ((o_8.length + 1) * 4 <= 140737488355328)) (
 gdO (decide (o_8.length + 1 <= 4611686018427387904)) (
 bdO (aV n false (o_8 ++ [aa .u32 c_9])) fun v20 => (
 some (v20.Groups)
 )
 )
 )
 ))

def dH (n : Nat) (a : List Int) (d : Int) : Option (List Int) :=
 gdO (decide ((1 + a.length) * 4 <= 140737488355328)) (
 gdO (decide (1 + a.length <= 4611686018427387904)) (
 bdO (aV n false ([d] ++ a)) fun v3 => (
 some (v3.Groups)
 )
 )
 )

def aZ (n : Nat) (l : List Int) (i : Int) : Option (Int) :=
 cdO (decide (i < (l.length : Int))) (
 gdO (inR i l.length) (
 some (aa .u64 (gt l i))
 )
 ) (
 some (0)
 )

def bX (n : Nat) (a : List Int) (b : List Int) : Option (List Int) :=
 bdO (aN (α := List Int × Int × Int) (β := List Int) n (fun again12 (o_1, b_2, i_3) => (
 cdO (decide (i_3 < (a.length : Int))) (
 bdO (aZ n a i_3) fun v14 => (
 bdO (aZ n b i_3) fun v16 => (
 gdO (decide ((o_1.length + 1) * 4 <= 140737488355328)) (
 gdO (decide (o_1.length + 1 <= 4611686018427387904)) (
 again12 (o_1 ++ [aa .u32 ((aa .u64 ((aa .u64 ((aa .u64 (1000000000 + v14)) - v16)) - b_2)).tmod 1000000000)], aa .u64 (1 - (aa .u64 ((aa .u64 ((aa .u64 ((aa .u64 (1000000000 + v14)) - v16)) - b_2)).tdiv 1000000000))), FK (i_3 + 1))
 )
 )
 )
 )
 ) (
 some (o_1)
 )
 )) ([], 0, 0)) fun o_11 => (
 bdO (aV n false o_11) fun v23 => (
 some (v23.Groups)
 )
 )

def cX (n : Nat) (a : List Int) (b : List Int) : Option (List Int × List Int) :=
 cdO (((b.length : Int) : Int) == 1) (
 gdO (inR 0 b.length) (
 bdO (eO n a (aa .u64 (gt b 0))) fun v3 => (
 bdO (aV n false [(aa .u32 v3.2)]) fun v5 => (
 some ((v3.1, v5.Groups))
 )
 )
 )
 ) (
 bdO (cM n a b) fun v7 => (
 cdO (decide (v7 < 0)) (
 some (([], a))
 ) (
 gdO (inR (FK ((b.length : Int) - 1)) b.length) (
 gdO (!decide (aa .u64 ((aa .u64 (gt b (FK ((b.length : Int) - 1)))) + 1) = 0)) (
 bdO (b7 n a (aa .u64 ((1000000000 : Int).tdiv (aa .u64 ((aa .u64 (gt b (FK ((b.length : Int) - 1)))) + 1))))) fun v12 => (
 bdO (b7 n b (aa .u64 ((1000000000 : Int).tdiv (aa .u64 ((aa .u64 (gt b (FK ((b.length : Int) - 1)))) + 1))))) fun v14 => (
 gdO (inS (FK ((FK ((v12.length : Int) - (b.length : Int))) + 1)) (v12.length : Int) v12.length) (
 bdO (aV n false ((v12.drop (FK ((FK ((v12.length : Int) - (b.length : Int))) + 1)).toNat).take ((v12.length : Int).toNat - (FK ((FK ((v12.length : Int) - (b.length : Int))) + 1)).toNat))) fun v17 => (
 gdO (decide (0 <= FK ((FK ((v12.length : Int) - (b.length : Int))) + 1))) (
 gdO (decide ((4 : Int) * (FK ((FK ((v12.length : Int) - (b.length : Int))) + 1)) <= 281474976710656)) (
 gdO (decide (FK ((FK ((v12.length : Int) - (b.length : Int))) + 1) <= 9223372036854775807)) (
 bdO (aN (α := List Int × List Int × Int) (β := List Int × List Int) n (fun again60 (r_22, q_23, i_24) => (
 cdO (decide (i_24 >= 0)) (
 gdO (inR i_24 v12.length) (
 bdO (dH n r_22 (gt v12 i_24)) fun v63 => (
 bdO (aZ n v63 (b.length : Int)) fun v65 => (
 bdO (aZ n v63 (FK ((b.length : Int) - 1))) fun v67 => (
 gdO (inR (FK ((b.length : Int) - 1)) v14.length) (
 gdO (!decide (aa .u64 ((aa .u64 (gt v14 (FK ((b.length : Int) - 1)))) + 1) = 0)) (
 bdO (b7 n v14 (aa .u64 ((aa .u64 ((aa .u64 (v65 * 1000000000)) + v67)).tdiv (aa .u64 ((aa .u64 (gt v14 (FK ((b.length : Int) - 1)))) + 1))))) fun v71 => (
 bdO (bX n v63 v71) fun v73 => (
 bdO (aN (α := List Int × Int) (β := List Int × Int) n (fun again84 (r_75, g_76) => (
 bdO (cM n r_75 v14) fun v85 => (
 cdO (decide (v85 >= 0)) (
 bdO (bX n r_75 v14) fun v88 => (
 again84 (v88, aa .u64 (g_76 + 1))
 )
 ) (
 some ((r_75, g_76))
 )
 )
 )) (v73, aa .u64 ((aa .u64 ((aa .u64 (v65 * 1000000000)) + v67)).tdiv (aa .u64 ((aa .u64 (gt v14 (FK ((b.length : Int) - 1)))) + 1))))) fun o90 => (
 match o90 with
 | (r_82, g_83) => (
 gdO (inR i_24 q_23.length) (
 again60 (r_82, q_23.set i_24.toNat (aa .u32 g_83), FK (i_24 - 1))
 )
 ))
 )
 )
 )
 )
 )
 )
 )
 )
 ) (
 some ((r_22, q_23))
 )
 )) (v17.Groups, List.replicate (FK ((FK ((v12.length : Int) - (b.length : Int))) + 1)).toNat ((0 : Int) : Int), FK ((v12.length : Int) - (b.length : Int)))) fun o94 => (
 match o94 with
 | (r_58, q_59) => (
 bdO (eO n r_58 (aa .u64 ((1000000000 : Int).tdiv (aa .u64 ((aa .u64 (gt b (FK ((b.length : Int) - 1)))) + 1))))) fun v97 => (
 bdO (aV n false q_59) fun v99 => (
 some ((v99.Groups, v97.1))
 )
 )
 ))
 )
 )
 )
 )
 )
 )
 )
 )
 )
 )
 )
 )

def df (n : Nat) (a : List Int) : Option (Int) :=
 bdO (aZ n a 1) fun v1 => (
 bdO (aZ n a 0) fun v3 => (
 some (aa .u64 ((aa .u64 (v1 * 1000000000)) + v3))
 )
 )

def fu (n : Nat) (x' : ah) (y : ah) : Option (ah) :=
 bdO (bf n x') fun v1 => (
 bdO (bf n y) fun v3 => (
 bdO (aN (α := List Int × List Int) (β := List Int × List Int) n (fun again16 (a_5, b_6) => (
 cdO (decide ((b_6.length : Int) > 0)) (
 cdO (decide ((a_5.length : Int) > 2)) (
 bdO (cX n a_5 b_6) fun v19 => (
 again16 (b_6, v19.2)
 )
 ) (
 cdO (decide ((b_6.length : Int) > 2)) (
 bdO (cX n a_5 b_6) fun v22 => (
 again16 (b_6, v22.2)
 )
 ) (
 some ((a_5, b_6))
 )
 )
 ) (
 some ((a_5, b_6))
 )
 )) (v1.Groups, v3.Groups)) fun o24 => (
 match o24 with
 | (a_14, b_15) => (
 cdO (((b_15.length : Int) : Int) == 0) (
 bdO (aV n false a_14) fun v28 => (
 some (v28)
 )
 ) (
 bdO (df n a_14) fun v30 => (
 bdO (df n b_15) fun v32 => (
 bdO (aN (α := Int × Int) (β := Int) n (fun again39 (u_34, v_35) => (
 cdO (decide (v_35 > 0)) (
 gdO (!decide (v_35 = 0)) (
 again39 (v_35, u_34.tmod v_35)
 )
 ) (
 some (u_34)
 )
 )) (v30, v32)) fun u_38 => (
 bdO (aV n false [(aa .u32 (u_38.tmod 1000000000)), (aa .u32 (aa .u64 (u_38.tdiv 1000000000)))]) fun v45 => (
 some (v45)
 )
 )
 )
 )
 )
 ))
 )
 )

def eF (n : Nat) (x' : ah) : Option (ah) :=
 bdO (bf n x') fun v1 => (
 bdO (aV n (!v1.Negative) v1.Groups) fun v3 => (
 some (v3)
 )
 )

def gg (n : Nat) (a : List Int) (b : List Int) : Option (List Int) :=
 bdO (aN (α := List Int × Int × Int) (β := List Int × Int) n (fun again20 (o_1, c_2, i_3) => (
 cdO (decide (i_3 < (a.length : Int))) (
 bdO (aZ n a i_3) fun v22 => (
 bdO (aZ n b i_3) fun v24 => (
 gdO (decide ((o_1.length + 1) * 4 <= 140737488355328)) (
 gdO (decide (o_1.length + 1 <= 4611686018427387904)) (
 again20 (o_1 ++ [aa .u32 ((aa .u64 ((aa .u64 (v22 + v24)) + c_2)).tmod 1000000000)], aa .u64 ((aa .u64 ((aa .u64 (v22 + v24)) + c_2)).tdiv 1000000000), FK (i_3 + 1))
 )
 )
 )
 )
 ) (
 cdO (decide (i_3 < (b.length : Int))) (
 bdO (aZ n a i_3) fun v29 => (
 bdO (aZ n b i_3) fun v31 => (
 gdO (decide ((o_1.length + 1) * 4 <= 140737488355328)) (
 gdO (decide (o_1.length + 1 <= 4611686018427387904)) (
 again20 (o_1 ++ [aa .u32 ((aa .u64 ((aa .u64 (v29 + v31)) + c_2)).tmod 1000000000)], aa .u64 ((aa .u64 ((aa .u64 (v29 + v31)) + c_2)).tdiv 1000000000), FK (i_3 + 1))
 )
 )
 )
 )
 ) (
 some ((o_1, c_2))
 )
 )
 )) ([], 0, 0)) fun o35 => (
 match o35 with
 | (o_18, c_19) => (
 gdO (decide ((o_18.length + 1) * 4 <= 140737488355328)) (
 gdO (decide (o_18.length + 1 <= 4611686018427387904)) (
 bdO (aV n false (o_18 ++ [aa .u32 c_19])) fun v40 => (
 some (v40.Groups)
 )
 )
 )
 ))

def fw (n : Nat) (x' : ah) (y : ah) : Option (ah) :=
 bdO (bf n x') fun v1 => (
 bdO (bf n y) fun v3 => (
 cdO (v1.Negative == v3.Negative) (
 bdO (gg n v1.Groups v3.Groups) fun v6 => (
 bdO (aV n v1.Negative v6) fun v8 => (
 some (v8)
 )
 )
 ) (
 bdO (cM n v1.Groups v3.Groups) fun v10 => (
 cdO (decide (v10 >= 0)) (
 bdO (bX n v1.Groups v3.Groups) fun v13 => (
 bdO (aV n v1.Negative v13) fun v15 => (
 some (v15)
 )
 )
 ) (
 bdO (bX n v3.Groups v1.Groups) fun v17 => (
 bdO (aV n v3.Negative v17) fun v19 => (
 some (v19)
 )
 )
 )
 )
 )
 )
 )

def cH (n : Nat) (x' : ah) (y : ah) : Option (ah) :=
 bdO (eF n y) fun v1 => (
 bdO (fw n x' v1) fun v3 => (
 some (v3)
 )
 )

def bO (n : Nat) (x' : ah) (y : ah) : Option (ah) :=
 bdO (bf n x') fun v1 => (
 bdO (bf n y) fun v3 => (
 gdO (decide (0 <= FK ((v1.Groups.length : Int) + (v3.Groups.length : Int)))) (
 gdO (decide ((4 : Int) * (FK ((v1.Groups.length : Int) + (v3.Groups.length : Int))) <= 281474976710656)) (
 gdO (decide (FK ((v1.Groups.length : Int) + (v3.Groups.length : Int)) <= 9223372036854775807)) (
 bdO (aN (α := List Int × Int) (β := List Int) n (fun again30 (o_8, i_9) => (
 cdO (decide (i_9 < (v1.Groups.length : Int))) (
 bdO (aN (α := List Int × Int × Int) (β := List Int × Int) n (fun again41 (o_32, c_33, j_34) => (
 cdO (decide (j_34 < (v3.Groups.length : Int))) (
 gdO (inR (FK (i_9 + j_34)) o_32.length) (
 gdO (inR i_9 v1.Groups.length) (
 gdO (inR j_34 v3.Groups.length) (
 again41 (o_32.set (FK (i_9 + j_34)).toNat (aa .u32 ((aa .u64 ((aa .u64 ((aa .u64 (gt o_32 (FK (i_9 + j_34)))) + (aa .u64 ((aa .u64 (gt v1.Groups i_9)) * (aa .u64 (gt v3.Groups j_34)))))) + c_33)).tmod 1000000000)), aa .u64 ((aa .u64 ((aa .u64 ((aa .u64 (gt o_32 (FK (i_9 + j_34)))) + (aa .u64 ((aa .u64 (gt v1.Groups i_9)) * (aa .u64 (gt v3.Groups j_34)))))) + c_33)).tdiv 1000000000), FK (j_34 + 1))
 )
 )
 )
 ) (
 some ((o_32, c_33))
 )
 )) (o_8, 0, 0)) fun o46 => (
 match o46 with
 | (o_39, c_40) => (
 gdO (inR (FK (i_9 + (v3.Groups.length : Int))) o_39.length) (
 again30 (o_39.set (FK (i_9 + (v3.Groups.length : Int))).toNat (aa .u32 c_40), FK (i_9 + 1))
 )
 ))
 ) (
 some (o_8)
 )
 )) (List.replicate (FK ((v1.Groups.length : Int) + (v3.Groups.length : Int))).toNat ((0 : Int) : Int), 0)) fun o_29 => (
 bdO (aV n (v1.Negative != v3.Negative) o_29) fun v53 => (
 some (v53)
 )
 )
 )
 )
 )
 )
 )

def cK (n : Nat) (x' : ah) (y : ah) : Option (ah × ah × Int) :=
 bdO (bf n x') fun v1 => (
 bdO (bf n y) fun v3 => (
 cdO (((v3.Groups.length : Int) : Int) == 0) (
 some ((ah.mk false [], ah.mk false [], 14))
 ) (
 bdO (cX n v1.Groups v3.Groups) fun v6 => (
 bdO (aV n (v1.Negative != v3.Negative) v6.1) fun v8 => (
 cdO (v1.Negative != v3.Negative) (
 cdO (decide ((v6.2.length : Int) > 0)) (
 bdO (fV n 1) fun v12 => (
 bdO (cH n v8 v12) fun v14 => (
 bdO (bO n v14 v3) fun v16 => (
 bdO (cH n v1 v16) fun v18 => (
 some ((v14, v18, 0))
 )
 )
 )
 )
 ) (
 bdO (bO n v8 v3) fun v20 => (
 bdO (cH n v1 v20) fun v22 => (
 some ((v8, v22, 0))
 )
 )
 )
 ) (
 bdO (bO n v8 v3) fun v24 => (
 bdO (cH n v1 v24) fun v26 => (
 some ((v8, v26, 0))
 )
 )
 )
 )
 )
 )
 )
 )

def dI (n : Nat) (num : ah) (den : ah) : Option (ak) :=
 bdO (fu n num den) fun v1 => (
 bdO (cw n den) fun v3 => (
 cdO (decide (v3 < 0)) (
 bdO (eF n v1) fun v6 => (
 bdO (cK n num v6) fun v8 => (
 bdO (cK n den v6) fun v10 => (
 some (ak.mk v8.1 v10.1)
 )
 )
 )
 ) (
 bdO (cK n num v1) fun v12 => (
 bdO (cK n den v1) fun v14 => (
 some (ak.mk v12.1 v14.1)
 )
 )
 )
 )
 )

def jn (n : Nat) (num : ah) (den : ah) : Option (ak × Int) :=
 bdO (cw n den) fun v1 => (
 cdO ((v1 : Int) == 0) (
 some ((ak.mk (ah.mk false []) (ah.mk false []), 14))
 ) (
 bdO (dI n num den) fun v4 => (
 some ((v4, 0))
 )
 )
 )

def fW (n : Nat) (n' : Int) (d : Int) : Option (ak × Int) :=
 bdO (bY n n') fun v1 => (
 bdO (bY n d) fun v3 => (
 bdO (jn n v1 v3) fun v5 => (
 some ((v5.1, v5.2))
 )
 )
 )

def eZ (n : Nat) (x' : ah) (y : ah) : Option (Int) :=
 bdO (cH n x' y) fun v1 => (
 bdO (cw n v1) fun v3 => (
 some (v3)
 )
 )

def cB (n : Nat) (x' : ak) : Option (Bool) :=
 bdO (cz n x'.Num) fun v1 => (
 cdO (!v1) (
 some (false)
 ) (
 bdO (cz n x'.Den) fun v4 => (
 cdO (!v4) (
 some (false)
 ) (
 bdO (cw n x'.Den) fun v7 => (
 cdO (decide (v7 <= 0)) (
 some (false)
 ) (
 bdO (fu n x'.Num x'.Den) fun v10 => (
 bdO (bY n 1) fun v12 => (
 bdO (eZ n v10 v12) fun v14 => (
 some ((v14 : Int) == 0)
 )
 )
 )
 )
 )
 )
 )
 )
 )

def jT (n : Nat) (n' : Int) : Option (ak) :=
 bdO (bY n n') fun v1 => (
 bdO (bY n 1) fun v3 => (
 some (ak.mk v1 v3)
 )
 )

def cW (n : Nat) (x' : ak) : Option (ak) :=
 bdO (cB n x') fun v1 => (
 cdO v1 (
 some (x')
 ) (
 bdO (jT n 0) fun v4 => (
 some (v4)
 )
 )
 )

def gG (n : Nat) (x' : ak) : Option (ak) :=
 bdO (cW n x') fun v1 => (
 bdO (eF n v1.Num) fun v3 => (
 some (ak.mk v3 v1.Den)
 )
 )

def gI (n : Nat) (x' : ak) (y : ak) : Option (ak) :=
 bdO (cW n x') fun v1 => (
 bdO (cW n y) fun v3 => (
 bdO (bO n v1.Num v3.Den) fun v5 => (
 bdO (bO n v3.Num v1.Den) fun v7 => (
 bdO (fw n v5 v7) fun v9 => (
 bdO (bO n v1.Den v3.Den) fun v11 => (
 bdO (dI n v9 v11) fun v13 => (
 some (v13)
 )
 )
 )
 )
 )
 )
 )

def gF (n : Nat) (x' : ak) (y : ak) : Option (ak) :=
 bdO (gG n y) fun v1 => (
 bdO (gI n x' v1) fun v3 => (
 some (v3)
 )
 )

def ga (n : Nat) (x' : ak) : Option (Int) :=
 bdO (cW n x') fun v1 => (
 bdO (cw n v1.Num) fun v3 => (
 some (v3)
 )
 )

def eW (n : Nat) (x' : ak) (y : ak) : Option (Int) :=
 bdO (gF n x' y) fun v1 => (
 bdO (ga n v1) fun v3 => (
 some (v3)
 )
 )

def e8 (n : Nat) (x' : ak) (y : ak) : Option (Bool) :=
 bdO (cB n x') fun v1 => (
 cdO v1 (
 bdO (cB n y) fun v4 => (
 cdO v4 (
 bdO (eW n x' y) fun v7 => (
 some ((v7 : Int) == 0)
 )
 ) (
 some (false)
 )
 )
 ) (
 some (false)
 )
 )

def bM (n : Nat) (n' : Int) : Option (List ai) :=
 gdO (!(decide (n' < 0))) (
 cdO (decide ((FK (n' - 0)) > 0)) (
 gdO (decide (0 < (FK (n' - 0)))) (
 gdO (decide ((FK (n' - 0)) <= 4611686018427387904)) (
 gdO (decide ((FK (n' - 0)).toNat * 80 <= 140737488355328)) (
 gdO (inS 0 0 (FK (n' - 0)).toNat) (
 some (([] : List ai))
 )
 )
 )
 )
 ) (
 some ([])
 )
 )

def bK (n : Nat) (slices : List (List ai)) : Option (List ai) :=
 bdO (aN (α := Int × Int) (β := Int) n (fun again7 (s_1, x_2) => (
 cdO (decide (x_2 < (slices.length : Int))) (
 gdO (inR x_2 slices.length) (
 gdO (!(decide ((FK (s_1 + ((gt slices x_2).length : Int))) < 0))) (
 again7 (FK (s_1 + ((gt slices x_2).length : Int)), FK (x_2 + 1))
 )
 )
 ) (
 some (s_1)
 )
 )) (0, 0)) fun s_6 => (
 bdO (bM n s_6) fun v14 => (
 bdO (aN (α := List ai × Int) (β := List ai) n (fun again23 (n_16, x_17) => (
 cdO (decide (x_17 < (slices.length : Int))) (
 gdO (inR x_17 slices.length) (
 gdO (decide ((n_16.length + (gt slices x_17).length) * 80 <= 140737488355328)) (
 gdO (decide (n_16.length + (gt slices x_17).length <= 4611686018427387904)) (
 again23 (n_16 ++ (gt slices x_17), FK (x_17 + 1))
 )
 )
 )
 ) (
 some (n_16)
 )
 )) (v14, 0)) fun n_22 => (
 some (n_22)
 )
 )
 )

def m7 (n : Nat) (c : ae) : Option (ae) :=
 cdO (!c.Closed) (
 some (c)
 ) (
 bdO (aN (α := Int × Int) (β := Int) n (fun again34 (a_24, x_25) => (
 cdO (decide (x_25 < (c.Points.length : Int))) (
 gdO (inR x_25 c.Points.length) (
 gdO (inR a_24 c.Points.length) (
 bdO (dO n (A2.mk (gt c.Points x_25).A (gt c.Points x_25).B) (A2.mk (gt c.Points a_24).A (gt c.Points a_24).B)) fun v39 => (
 cdO (decide (v39 < 0)) (
 again34 (x_25, FK (x_25 + 1))
 ) (
 again34 (a_24, FK (x_25 + 1))
 )
 )
 )
 )
 ) (
 some (a_24)
 )
 )) (0, 0)) fun a_33 => (
 gdO (inS a_33 (c.Points.length : Int) c.Points.length) (
 gdO (inS 0 a_33 c.Points.length) (
 bdO (bK n [((c.Points.drop a_33.toNat).take ((c.Points.length : Int).toNat - a_33.toNat)), ((c.Points.drop (0 : Int).toNat).take (a_33.toNat - (0 : Int).toNat))]) fun v47 => (
 some (ae.mk true v47)
 )
 )
 )
 )
 )

def mq (n : Nat) (a : ae) (b : ae) : Option (Int) :=
 bdO (eu n a) fun v1 => (
 bdO (eu n b) fun v3 => (
 bdO (dO n v1 v3) fun v5 => (
 some (v5)
 )
 )
 )

def a8 (n : Nat) (x' : List ae) : Option (List ae) :=
 gdO (decide (x'.length < 4611686018427387904)) (
 sV (fun x y => mq n x y) x'
 )

def na (n : Nat) (p : ai) (q : ai) : Option (Bool) :=
 cdO ((p.A : Int) == q.A) (
 cdO ((p.B : Int) == q.B) (
 bdO (fo n p.At) fun v3 => (
 cdO v3 (
 bdO (fo n q.At) fun v6 => (
 cdO v6 (
 bdO (jP n p.At q.At) fun v9 => (
 some ((v9 : Int) == 0)
 )
 ) (
 some (false)
 )
 )
 ) (
 some (false)
 )
 )
 ) (
 some (false)
 )
 ) (
 some (false)
 )

def aP (n : Nat) (s1 : List ai) (s2 : List ai) : Option (Bool) :=
 cdO (((s1.length : Int) : Int) != (s2.length : Int)) (
 some (false)
 ) (
 bdO (aN (α := Int) (β := Sum (Unit) (Bool)) n (fun again9 x_2 => (
 cdO (decide (x_2 < (s1.length : Int))) (
 gdO (inR x_2 s1.length) (
 gdO (inR x_2 s2.length) (
 bdO (na n (gt s1 x_2) (gt s2 x_2)) fun v13 => (
 cdO (!v13) (
 some (Sum.inr (false))
 ) (
 again9 (FK (x_2 + 1))
 )
 )
 )
 )
 ) (
 some (Sum.inl ())
 )
 )) 0) fun o16 => (
 match o16 with
 | .inl _ => (
 some (true)
 )
 | .inr (r0) => (
 some r0
 ))
 )

def pq (n : Nat) (a : ae) (b : ae) : Option (Bool) :=
 cdO (a.Closed == b.Closed) (
 bdO (aP n a.Points b.Points) fun v2 => (
 some (v2)
 )
 ) (
 some (false)
 )

def aR (n : Nat) (s1 : List ae) (s2 : List ae) : Option (Bool) :=
 cdO (((s1.length : Int) : Int) != (s2.length : Int)) (
 some (false)
 ) (
 bdO (aN (α := Int) (β := Sum (Unit) (Bool)) n (fun again9 x_2 => (
 cdO (decide (x_2 < (s1.length : Int))) (
 gdO (inR x_2 s1.length) (
 gdO (inR x_2 s2.length) (
 bdO (pq n (gt s1 x_2) (gt s2 x_2)) fun v13 => (
 cdO (!v13) (
 some (Sum.inr (false))
 ) (
 again9 (FK (x_2 + 1))
 )
 )
 )
 )
 ) (
 some (Sum.inl ())
 )
 )) 0) fun o16 => (
 match o16 with
 | .inl _ => (
 some (true)
 )
 | .inr (r0) => (
 some r0
 ))
 )

noncomputable def jW (n : Nat) (g : al) (level : Int) (l : List ae) : Option (Int) :=
 bdO (dT n g level) fun v1 => (
 cdO ((v1 : Int) != 0) (
 some (v1)
 ) (
 bdO (aN (α := List ae × Int) (β := Sum (List ae) (Int)) n (fun again16 (g_5, x_6) => (
 cdO (decide (x_6 < (l.length : Int))) (
 gdO (inR x_6 l.length) (
 cdO ((((gt l x_6).Points.length : Int) : Int) == 0) (
 some (Sum.inr (12))
 ) (
 bdO (m7 n (gt l x_6)) fun v21 => (
 gdO (decide ((g_5.length + 1) * 32 <= 140737488355328)) (
 gdO (decide (g_5.length + 1 <= 4611686018427387904)) (
 again16 (g_5 ++ [v21], FK (x_6 + 1))
 )
 )
 )
 )
 )
 ) (
 some (Sum.inl g_5)
 )
 )) ([], 0)) fun o25 => (
 match o25 with
 | .inl g_15 => (
 bdO (a8 n g_15) fun v28 => (
 gdO (decide (v28.length = g_15.length)) (
 bdO (fU n g level) fun v31 => (
 bdO (aR n v28 v31) fun v33 => (
 cdO (!v33) (
 some (12)
 ) (
 some (0)
 )
 )
 )
 )
 )
 )
 | .inr (r0) => (
 some r0
 ))
 )
 )

noncomputable def fH (n : Nat) : Option (Bool) :=
 bdO (cY n) fun v1 => (
 bdO (ew n v1 1) fun v3 => (
 cdO ((v3.2 : Int) != 0) (
 some (false)
 ) (
 cdO (((v3.1.length : Int) : Int) != 1) (
 some (false)
 ) (
 gdO (inR 0 v3.1.length) (
 cdO (!(gt v3.1 0).Closed) (
 some (false)
 ) (
 cdO ((((gt v3.1 0).Points.length : Int) : Int) != 6) (
 some (false)
 ) (
 gdO (inR 1 (gt v3.1 0).Points.length) (
 cdO (((gt (gt v3.1 0).Points 1).A : Int) != 1) (
 some (false)
 ) (
 cdO (((gt (gt v3.1 0).Points 1).B : Int) != 4) (
 some (false)
 ) (
 bdO (cY n) fun v13 => (
 bdO (nV n v13 1) fun v15 => (
 bdO (cY n) fun v17 => (
 bdO (oq n v17 (gt v3.1 0) 1 1) fun v19 => (
 bdO (fW n 147 16) fun v21 => (
 cdO ((v15.2 : Int) == 0) (
 cdO ((v19.2 : Int) == 0) (
 cdO ((v19.1 : Int) == 1) (
 bdO (e8 n v15.1 v21.1) fun v26 => (
 cdO v26 (
 bdO (cY n) fun v29 => (
 bdO (jW n v29 1 v3.1) fun v31 => (
 some ((v31 : Int) == 0)
 )
 )
 ) (
 some (false)
 )
 )
 ) (
 some (false)
 )
 ) (
 some (false)
 )
 ) (
 some (false)
 )
 )
 )
 )
 )
 )
 )
 )
 )
 )
 )
 )
 )
 )
 )
 )

def kP (n : Nat) (g : al) (n' : Int) : Option (Bool) :=
 some (decide ((g.Z.length : Int) <= n'))

def dD (n : Nat) (n' : Int) : Option (Bool) :=
 cdO (decide (n' < (-1048576))) (
 some (true)
 ) (
 some (decide (n' > 1048576))
 )

def fG (n : Nat) (g : al) : Option (Int) :=
 cdO (decide (g.Width < 2)) (
 some (2)
 ) (
 cdO (decide (g.Width > 64)) (
 some (2)
 ) (
 cdO (decide (g.Height < 2)) (
 some (2)
 ) (
 cdO (decide (g.Height > 64)) (
 some (2)
 ) (
 cdO (decide (g.Step < 2)) (
 some (2)
 ) (
 cdO (decide (g.Step > 65536)) (
 some (2)
 ) (
 cdO (((g.Step.tmod 2) : Int) != 0) (
 some (2)
 ) (
 bdO (dD n g.X0) fun v8 => (
 cdO v8 (
 some (2)
 ) (
 bdO (dD n g.Y0) fun v11 => (
 cdO v11 (
 some (2)
 ) (
 cdO (((g.Z.length : Int) : Int) != (FK (g.Width * g.Height))) (
 some (4)
 ) (
 bdO (aN (α := Int) (β := Sum (Unit) (Int)) n (fun again22 x_15 => (
 cdO (decide (x_15 < (g.Z.length : Int))) (
 gdO (inR x_15 g.Z.length) (
 cdO (((gt g.Z x_15) : Int) != (-2147483648)) (
 bdO (dD n (gt g.Z x_15)) fun v26 => (
 cdO v26 (
 some (Sum.inr (2))
 ) (
 again22 (FK (x_15 + 1))
 )
 )
 ) (
 again22 (FK (x_15 + 1))
 )
 )
 ) (
 some (Sum.inl ())
 )
 )) 0) fun o29 => (
 match o29 with
 | .inl _ => (
 some (0)
 )
 | .inr (r0) => (
 some r0
 ))
 )
 )
 )
 )
 )
 )
 )
 )
 )
 )
 )
 )

def eY (n : Nat) (g : al) (level : Int) : Option (Int) :=
 bdO (fG n g) fun v1 => (
 cdO ((v1 : Int) != 0) (
 some (v1)
 ) (
 cdO (((level.tmod 2) : Int) == 0) (
 some (1)
 ) (
 cdO (decide (level < (-2097153))) (
 some (2)
 ) (
 cdO (decide (level > 2097153)) (
 some (2)
 ) (
 some (0)
 )
 )
 )
 )
 )

def dW (n : Nat) (g : al) : Option (List (A3 Int)) :=
 bdO (aN (α := List (A3 Int) × Int) (β := List (A3 Int)) n (fun again76 (l_1, x_2) => (
 cdO (decide (x_2 < (FK (g.Height - 1)))) (
 bdO (aN (α := List (A3 Int) × Int) (β := List (A3 Int)) n (fun again113 (l_78, x_79) => (
 cdO (decide (x_79 < (FK (g.Width - 1)))) (
 bdO (some (FK ((FK (x_2 * g.Width)) + x_79))) fun w115 => (
 bdO (some [A3.mk w115 (FK (w115 + 1)) (FK ((FK (w115 + g.Width)) + 1)), A3.mk w115 (FK ((FK (w115 + g.Width)) + 1)) (FK (w115 + g.Width))]) fun w117 => (
 bdO (aN (α := List (A3 Int) × Int) (β := List (A3 Int)) n (fun again132 (l_119, x_120) => (
 cdO (decide (x_120 < 2)) (
 gdO (inR x_120 w117.length) (
 gdO (inR (gt w117 x_120).e0 g.Z.length) (
 cdO (((gt g.Z (gt w117 x_120).e0) : Int) != (-2147483648)) (
 gdO (inR (gt w117 x_120).e1 g.Z.length) (
 cdO (((gt g.Z (gt w117 x_120).e1) : Int) != (-2147483648)) (
 gdO (inR (gt w117 x_120).e2 g.Z.length) (
 cdO (((gt g.Z (gt w117 x_120).e2) : Int) != (-2147483648)) (
 gdO (decide ((l_119.length + 1) * 24 <= 140737488355328)) (
 gdO (decide (l_119.length + 1 <= 4611686018427387904)) (
 again132 (l_119 ++ [(gt w117 x_120)], FK (x_120 + 1))
 )
 )
 ) (
 again132 (l_119, FK (x_120 + 1))
 )
 )
 ) (
 again132 (l_119, FK (x_120 + 1))
 )
 )
 ) (
 again132 (l_119, FK (x_120 + 1))
 )
 )
 )
 ) (
 some (l_119)
 )
 )) (l_78, 0)) fun l_131 => (
 again113 (l_131, FK (x_79 + 1))
 )
 )
 )
 ) (
 some (l_78)
 )
 )) (l_1, 0)) fun l_112 => (
 again76 (l_112, FK (x_2 + 1))
 )
 ) (
 some (l_1)
 )
 )) ([], 0)) fun l_75 => (
 some (l_75)
 )

def bn (n : Nat) (g : al) (level : Int) (k : Int) : Option (Bool) :=
 gdO (inR k g.Z.length) (
 some (decide ((FK (2 * (gt g.Z k))) > level))
 )

def ff (n : Nat) (a : Int) (b : Int) : Option (A2 Int) :=
 some (A2.mk (mn a b) (mx a b))

def eC (n : Nat) (g : al) (level : Int) : Option (List (A2 (A2 Int))) :=
 bdO (dW n g) fun v1 => (
 bdO (aN (α := List (A2 (A2 Int)) × Int) (β := List (A2 (A2 Int))) n (fun again100 (l_3, x_4) => (
 cdO (decide (x_4 < (v1.length : Int))) (
 gdO (inR x_4 v1.length) (
 bdO (aN (α := Int × Int × Int × Int × Bool × Int) (β := Int × Int × Int × Int × Bool) n (fun again151 (s_103, s_104, s_105, s_106, f_107, x_108) => (
 cdO (decide (x_108 < 3)) (
 gdO (inR x_108 3) (
 gdO (inR ((FK (x_108 + 1)).tmod 3) 3) (
 bdO (some (A3.get (gt v1 x_4) ((FK (x_108 + 1)).tmod 3))) fun w155 => (
 bdO (bn n g level (A3.get (gt v1 x_4) x_108)) fun v157 => (
 cdO v157 (
 bdO (bn n g level w155) fun v160 => (
 cdO (!v160) (
 bdO (ff n (A3.get (gt v1 x_4) x_108) w155) fun v163 => (
 bdO (bn n g level (A3.get (gt v1 x_4) x_108)) fun v165 => (
 cdO (!v165) (
 bdO (bn n g level w155) fun v168 => (
 cdO v168 (
 bdO (ff n (A3.get (gt v1 x_4) x_108) w155) fun v171 => (
 again151 (v163.e0, v163.e1, v171.e0, v171.e1, true, FK (x_108 + 1))
 )
 ) (
 again151 (v163.e0, v163.e1, s_105, s_106, true, FK (x_108 + 1))
 )
 )
 ) (
 again151 (v163.e0, v163.e1, s_105, s_106, true, FK (x_108 + 1))
 )
 )
 )
 ) (
 bdO (bn n g level (A3.get (gt v1 x_4) x_108)) fun v173 => (
 cdO (!v173) (
 bdO (bn n g level w155) fun v176 => (
 cdO v176 (
 bdO (ff n (A3.get (gt v1 x_4) x_108) w155) fun v179 => (
 again151 (s_103, s_104, v179.e0, v179.e1, f_107, FK (x_108 + 1))
 )
 ) (
 again151 (s_103, s_104, s_105, s_106, f_107, FK (x_108 + 1))
 )
 )
 ) (
 again151 (s_103, s_104, s_105, s_106, f_107, FK (x_108 + 1))
 )
 )
 )
 )
 ) (
 bdO (bn n g level (A3.get (gt v1 x_4) x_108)) fun v181 => (
 cdO (!v181) (
 bdO (bn n g level w155) fun v184 => (
 cdO v184 (
 bdO (ff n (A3.get (gt v1 x_4) x_108) w155) fun v187 => (
 again151 (s_103, s_104, v187.e0, v187.e1, f_107, FK (x_108 + 1))
 )
 ) (
 again151 (s_103, s_104, s_105, s_106, f_107, FK (x_108 + 1))
 )
 )
 ) (
 again151 (s_103, s_104, s_105, s_106, f_107, FK (x_108 + 1))
 )
 )
 )
 )
 )
 )
 )
 ) (
 some ((s_103, s_104, s_105, s_106, f_107))
 )
 )) (0, 0, 0, 0, false, 0)) fun o189 => (
 match o189 with
 | (s_146, s_147, s_148, s_149, f_150) => (
 cdO f_150 (
 gdO (decide ((l_3.length + 1) * 32 <= 140737488355328)) (
 gdO (decide (l_3.length + 1 <= 4611686018427387904)) (
 again100 (l_3 ++ [A2.mk (A2.mk s_146 s_147) (A2.mk s_148 s_149)], FK (x_4 + 1))
 )
 )
 ) (
 again100 (l_3, FK (x_4 + 1))
 )
 ))
 )
 ) (
 some (l_3)
 )
 )) ([], 0)) fun l_99 => (
 some (l_99)
 )
 )

def bx (n : Nat) (g : al) (level : Int) (e : A2 Int) : Option (ai) :=
 gdO (inR e.e0 g.Z.length) (
 gdO (inR e.e1 g.Z.length) (
 bdO (fW n (FK (level - (FK (2 * (gt g.Z e.e0))))) (FK (2 * (FK ((gt g.Z e.e1) - (gt g.Z e.e0)))))) fun v3 => (
 some (ai.mk e.e0 e.e1 v3.1)
 )
 )
 )

def cE (n : Nat) (e : A2 Int) (closed : Bool) (p : List (A2 Int × Bool)) (p' : List (A2 Int × A2 Int)) (p'' : Int) (zP : Int) (vP : Int) (kd : Int) (mO : Int) (l8 : List Int) (ig : Int) (fD : List ae) : Option (List (A2 Int × Bool) × List ae) :=
 bdO (aN (α := List (A2 Int × Bool) × Int × Int × List ai × Bool) (β := List (A2 Int × Bool) × List ai) n (fun again41 (p_28, e_29, e_30, c_31, o_32) => (
 cdO o_32 (
 cdO (!(getM false p_28 (A2.mk e_29 e_30))) (
 bdO (bx n (al.mk p'' zP vP kd mO l8) ig (A2.mk e_29 e_30)) fun v44 => (
 gdO (decide ((c_31.length + 1) * 80 <= 140737488355328)) (
 gdO (decide (c_31.length + 1 <= 4611686018427387904)) (
 again41 (cV p_28 (A2.mk e_29 e_30) true, (getM (A2.mk 0 0 : A2 Int) p' (A2.mk e_29 e_30)).e0, (getM (A2.mk 0 0 : A2 Int) p' (A2.mk e_29 e_30)).e1, c_31 ++ [v44], dG p' (A2.mk e_29 e_30))
 )
 )
 )
 ) (
 some ((p_28, c_31))
 )
 ) (
 some ((p_28, c_31))
 )
 )) (p, e.e0, e.e1, [], true)) fun o48 => (
 match o48 with
 | (p_39, c_40) => (
 gdO (decide ((fD.length + 1) * 32 <= 140737488355328)) (
 gdO (decide (fD.length + 1 <= 4611686018427387904)) (
 some ((p_39, fD ++ [ae.mk closed c_40]))
 )
 )
 ))

def bm (n : Nat) (c : ae) : Option (A2 Int) :=
 gdO (inR 0 c.Points.length) (
 some (A2.mk (gt c.Points 0).A (gt c.Points 0).B)
 )

def dh (n : Nat) (a : A2 Int) (b : A2 Int) : Option (Bool) :=
 cdO (decide (a.e0 < b.e0)) (
 some (true)
 ) (
 cdO ((a.e0 : Int) == b.e0) (
 some (decide (a.e1 < b.e1))
 ) (
 some (false)
 )
 )

def eM (n : Nat) (g : al) (level : Int) : Option (List ae) :=
 bdO (eC n g level) fun v1 => (
 bdO (aN (α := List (A2 Int × A2 Int) × List (A2 Int × Bool) × Int) (β := List (A2 Int × A2 Int) × List (A2 Int × Bool)) n (fun again10 (n_3, b_4, x_5) => (
 cdO (decide (x_5 < (v1.length : Int))) (
 gdO (inR x_5 v1.length) (
 again10 (cV n_3 (gt v1 x_5).e0 (gt v1 x_5).e1, cV b_4 (gt v1 x_5).e1 true, FK (x_5 + 1))
 )
 ) (
 some ((n_3, b_4))
 )
 )) (([] : List (A2 Int × A2 Int)), ([] : List (A2 Int × Bool)), 0)) fun o13 => (
 match o13 with
 | (n_8, b_9) => (
 bdO (aN (α := List (A2 Int × Bool) × List ae × Int) (β := List (A2 Int × Bool) × List ae) n (fun again26 (d_16, a_17, x_18) => (
 cdO (decide (x_18 < (v1.length : Int))) (
 gdO (inR x_18 v1.length) (
 cdO (!(getM false b_9 (gt v1 x_18).e0)) (
 bdO (cE n (gt v1 x_18).e0 false d_16 n_8 g.X0 g.Y0 g.Step g.Width g.Height g.Z level a_17) fun v30 => (
 again26 (v30.1, v30.2, FK (x_18 + 1))
 )
 ) (
 again26 (d_16, a_17, FK (x_18 + 1))
 )
 )
 ) (
 some ((d_16, a_17))
 )
 )) (([] : List (A2 Int × Bool)), [], 0)) fun o32 => (
 match o32 with
 | (d_24, a_25) => (
 bdO (aN (α := List (A2 Int × Bool) × List ae × Int) (β := List ae) n (fun again59 (d_35, a_36, x_37) => (
 cdO (decide (x_37 < (g.Z.length : Int))) (
 bdO (aN (α := List (A2 Int × Bool) × List ae × Int) (β := List (A2 Int × Bool) × List ae) n (fun again71 (d_61, a_62, b_63) => (
 cdO (decide (b_63 < (g.Z.length : Int))) (
 cdO (dG n_8 (A2.mk x_37 b_63)) (
 cdO (!(getM false d_61 (A2.mk x_37 b_63))) (
 bdO (cE n (A2.mk x_37 b_63) true d_61 n_8 g.X0 g.Y0 g.Step g.Width g.Height g.Z level a_62) fun v75 => (
 again71 (v75.1, v75.2, FK (b_63 + 1))
 )
 ) (
 again71 (d_61, a_62, FK (b_63 + 1))
 )
 ) (
 again71 (d_61, a_62, FK (b_63 + 1))
 )
 ) (
 some ((d_61, a_62))
 )
 )) (d_35, a_36, FK (x_37 + 1))) fun o77 => (
 match o77 with
 | (d_69, a_70) => (
 again59 (d_69, a_70, FK (x_37 + 1))
 ))
 ) (
 some (a_36)
 )
 )) (d_24, a_25, 0)) fun a_58 => (
 bdO (aN (α := List ae × Int) (β := List ae) n (fun again114 (a_83, x_84) => (
 cdO (decide (x_84 < (a_58.length : Int))) (
 bdO (aN (α := List ae × Int) (β := List ae) n (fun again129 (a_116, j_117) => (
 cdO (decide (j_117 > 0)) (
 gdO (inR j_117 a_116.length) (
 bdO (bm n (gt a_116 j_117)) fun v132 => (
 gdO (inR (FK (j_117 - 1)) a_116.length) (
 bdO (bm n (gt a_116 (FK (j_117 - 1)))) fun v135 => (
 bdO (dh n v132 v135) fun v137 => (
 cdO v137 (
 again129 ((a_116.set j_117.toNat (gt a_116 (FK (j_117 - 1)))).set (FK (j_117 - 1)).toNat (gt a_116 j_117), FK (j_117 - 1))
 ) (
 some (a_116)
 )
 )
 )
 )
 )
 )
 ) (
 some (a_116)
 )
 )) (a_83, x_84)) fun a_128 => (
 again114 (a_128, FK (x_84 + 1))
 )
 ) (
 some (a_83)
 )
 )) (a_58, 0)) fun a_113 => (
 some (a_113)
 )
 )
 ))
 ))
 )

def gi (n : Nat) (a : ae) (b : ae) : Option (Bool) :=
 cdO (a.Closed != b.Closed) (
 some (false)
 ) (
 cdO (((a.Points.length : Int) : Int) != (b.Points.length : Int)) (
 some (false)
 ) (
 bdO (aN (α := Int) (β := Sum (Unit) (Bool)) n (fun again12 x_3 => (
 cdO (decide (x_3 < (a.Points.length : Int))) (
 gdO (inR x_3 a.Points.length) (
 gdO (inR x_3 b.Points.length) (
 cdO (((gt a.Points x_3).A : Int) != (gt b.Points x_3).A) (
 some (Sum.inr (false))
 ) (
 cdO (((gt a.Points x_3).B : Int) != (gt b.Points x_3).B) (
 some (Sum.inr (false))
 ) (
 bdO (e8 n (gt a.Points x_3).At (gt b.Points x_3).At) fun v18 => (
 cdO (!v18) (
 some (Sum.inr (false))
 ) (
 again12 (FK (x_3 + 1))
 )
 )
 )
 )
 )
 )
 ) (
 some (Sum.inl ())
 )
 )) 0) fun o21 => (
 match o21 with
 | .inl _ => (
 some (true)
 )
 | .inr (r0) => (
 some r0
 ))
 )
 )

def aM (n : Nat) (s1 : List ae) (s2 : List ae) : Option (Bool) :=
 cdO (((s1.length : Int) : Int) != (s2.length : Int)) (
 some (false)
 ) (
 bdO (aN (α := Int) (β := Sum (Unit) (Bool)) n (fun again9 x_2 => (
 cdO (decide (x_2 < (s1.length : Int))) (
 gdO (inR x_2 s1.length) (
 gdO (inR x_2 s2.length) (
 bdO (gi n (gt s1 x_2) (gt s2 x_2)) fun v13 => (
 cdO (!v13) (
 some (Sum.inr (false))
 ) (
 again9 (FK (x_2 + 1))
 )
 )
 )
 )
 ) (
 some (Sum.inl ())
 )
 )) 0) fun o16 => (
 match o16 with
 | .inl _ => (
 some (true)
 )
 | .inr (r0) => (
 some r0
 ))
 )

noncomputable def c8 (n : Nat) (g : al) (level : Int) : Option (Bool) :=
 bdO (fH n) fun v1 => (
 cdO (!v1) (
 some (false)
 ) (
 bdO (kP n g 40) fun v4 => (
 cdO (!v4) (
 some (true)
 ) (
 bdO (ew n g level) fun v7 => (
 bdO (eY n g level) fun v9 => (
 cdO ((v9 : Int) != 0) (
 cdO ((v7.2 : Int) == v9) (
 some (((v7.1.length : Int) : Int) == 0)
 ) (
 some (false)
 )
 ) (
 cdO ((v7.2 : Int) == 0) (
 bdO (eM n g level) fun v14 => (
 bdO (aM n v7.1 v14) fun v16 => (
 some (v16)
 )
 )
 ) (
 some (false)
 )
 )
 )
 )
 )
 )
 )
 )
abbrev iCu := iC .u32
abbrev wFu (n : Int) : Int := aa .u64 n
abbrev zN2 : List AV := [aB false, nS, aB false, nS]
abbrev zN3 : List AV := [aB false, nS, aB false, nS, aB false, nS]
abbrev zN4 : List AV := [aB false, nS, aB false, nS, aB false, nS, aB false, nS]
end Go.L