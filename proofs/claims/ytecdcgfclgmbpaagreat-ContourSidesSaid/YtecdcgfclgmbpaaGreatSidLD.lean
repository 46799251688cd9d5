
import Derived.Test.YtecdcgfclgmbpaaGreatSc11Sids
import Derived.Test.YtecdcgfclgmbpaaGreatScMSids
import Derived.Test.YtecdcgfclgmbpaaGreatScRSids
import Derived.Test.YtecdcgfclgmbpaaGreatScUSids
import Derived.Test.YtecdcgfclgmbpaaGreatScSSids
set_option linter.all false
set_option maxRecDepth 100000
set_option maxHeartbeats 4000000
namespace Go.L
open Go Go.Eng
structure al where
 X0 : Int
 Y0 : Int
 Step : Int
 Width : Int
 Height : Int
 Z : List Int
 deriving Inhabited

structure A2 (α : Type) where
 e0 : α
 e1 : α
 deriving Inhabited, DecidableEq

structure ae where
 Negative : Bool
 Groups : List Int
 deriving Inhabited, DecidableEq

structure aj where
 Num : ae
 Den : ae
 deriving Inhabited, DecidableEq

structure ak where
 A : Int
 B : Int
 At : aj
 deriving Inhabited, DecidableEq

structure ah where
 Closed : Bool
 Points : List ak
 deriving Inhabited, DecidableEq

def an.K (x : A2 Int) : Value := .agg #[.int .i64 x.e0, .int .i64 x.e1]
theorem an.key : B4 an.K := fun ⟨a0, a1⟩ ⟨b0, b1⟩ => by
 have h : ((⟨a0, a1⟩ : A2 Int) == ⟨b0, b1⟩) = (a0 == b0 && (a1 == b1 && true)) := by rw [Bool.eq_iff_iff]; simp
 show some _ = some _
 rw [h]

def ai.c (x : A2 Int) : List AV := [.at (.int .i64 x.e0), .at (.int .i64 x.e1)]
theorem ai.len : ∀ x, (ai.c x).length = 2 := fun _ => rfl
theorem ai.pure : ∀ x, cE (ai.c x) = [] := fun _ => rfl

structure A3 (α : Type) where
 e0 : α
 e1 : α
 e2 : α
 deriving Inhabited

def aD.c (x : A3 Int) : List AV := [.at (.int .i64 x.e0), .at (.int .i64 x.e1), .at (.int .i64 x.e2)]
theorem aD.len : ∀ x, (aD.c x).length = 3 := fun _ => rfl
theorem aD.pure : ∀ x, cE (aD.c x) = [] := fun _ => rfl

def A3.get (x : A3 Int) (j : Int) : Int := gt [x.e0, x.e1, x.e2] j
def A3.put (x : A3 Int) (j v : Int) : A3 Int := ⟨if j.toNat = 0 then v else x.e0, if j.toNat = 1 then v else x.e1, if j.toNat = 2 then v else x.e2⟩
theorem A3.GO {k : IntKind} (x : A3 Int) {j : Int} (v : Int) (h : inR j 3 = true) : setCells [.at (.int k x.e0), .at (.int k x.e1), .at (.int k x.e2)] j.toNat [.at (.int k v)] = [.at (.int k (x.put j v).e0), .at (.int k (x.put j v).e1), .at (.int k (x.put j v).e2)] := by
 have h1 := aE h
 have hj : j.toNat = 0 \/ j.toNat = 1 \/ j.toNat = 2 := by omega
 unfold A3.put
 rcases hj with e | e | e <;> simp only [e] <;> rfl

def ak.c (x : ak) : List AV := [.at (.int .i64 x.A), .at (.int .i64 x.B), .at (.bool x.At.Num.Negative), slT (iC .u32) x.At.Num.Groups, .at (.bool x.At.Den.Negative), slT (iC .u32) x.At.Den.Groups]
theorem ak.len : ∀ x, (ak.c x).length = 6 := fun _ => rfl
theorem ak.pure : ∀ x, cE (ak.c x) = [] := fun _ => rfl

def ah.c (x : ah) : List AV := [.at (.bool x.Closed), slT ak.c x.Points]
theorem ah.len : ∀ x, (ah.c x).length = 2 := fun _ => rfl
theorem ah.pure : ∀ x, cE (ah.c x) = [] := fun _ => rfl

theorem ak.inj : ∀ x y, ak.c x = ak.c y -> x = y := by
 rintro ⟨_, _, ⟨⟨_, _⟩, ⟨_, _⟩⟩⟩ ⟨_, _, ⟨⟨_, _⟩, ⟨_, _⟩⟩⟩ h
 simp only [ak.c, List.cons.injEq, AV.at.injEq, Value.int.injEq, Value.bool.injEq, true_and, and_true, dt] at h
 simp_all

structure aw where
 X : aj
 Y : aj
 deriving Inhabited

def aw.c (x : aw) : List AV := [.at (.bool x.X.Num.Negative), slT (iC .u32) x.X.Num.Groups, .at (.bool x.X.Den.Negative), slT (iC .u32) x.X.Den.Groups, .at (.bool x.Y.Num.Negative), slT (iC .u32) x.Y.Num.Groups, .at (.bool x.Y.Den.Negative), slT (iC .u32) x.Y.Den.Groups]
theorem aw.len : ∀ x, (aw.c x).length = 8 := fun _ => rfl
theorem aw.pure : ∀ x, cE (aw.c x) = [] := fun _ => rfl

def al.c (x : al) : List AV := [.at (.int .i64 x.X0), .at (.int .i64 x.Y0), .at (.int .i64 x.Step), .at (.int .i64 x.Width), .at (.int .i64 x.Height), slT (iC .i64) x.Z]
theorem al.len : ∀ x, (al.c x).length = 6 := fun _ => rfl
theorem al.pure : ∀ x, cE (al.c x) = [] := fun _ => rfl

def aj.c (x : aj) : List AV := [.at (.bool x.Num.Negative), slT (iC .u32) x.Num.Groups, .at (.bool x.Den.Negative), slT (iC .u32) x.Den.Groups]
theorem aj.len : ∀ x, (aj.c x).length = 4 := fun _ => rfl
theorem aj.pure : ∀ x, cE (aj.c x) = [] := fun _ => rfl

def ae.c (x : ae) : List AV := [.at (.bool x.Negative), slT (iC .u32) x.Groups]
theorem ae.len : ∀ x, (ae.c x).length = 2 := fun _ => rfl
theorem ae.pure : ∀ x, cE (ae.c x) = [] := fun _ => rfl

def cz (n : Nat) : Option (al) :=
 some (al.mk 0 0 2 3 3 [(0 : Int), (0 : Int), (0 : Int), (0 : Int), (4 : Int), (0 : Int), (0 : Int), (0 : Int), (0 : Int)])

def dU (n : Nat) (n' : Int) : Option (Bool) :=
 cdO (decide (n' >= 2)) (
 some (decide (n' <= 64))
 ) (
 some (false)
 )

def gB (n : Nat) (n' : Int) : Option (Bool) :=
 cdO (decide (n' < (-1048576))) (
 some (true)
 ) (
 some (decide (n' > 1048576))
 )

def g9 (n : Nat) (z : Int) : Option (Bool) :=
 cdO ((z : Int) != (-2147483648)) (
 bdO (gB n z) fun v2 => (
 some (v2)
 )
 ) (
 some (false)
 )

def bH (n : Nat) (s : List Int) : Option (Int) :=
 bdO (aN (α := Int) (β := Sum (Unit) (Int)) n (fun again7 x_1 => (
 cdO (decide (x_1 < (s.length : Int))) (
 gdO (inR x_1 s.length) (
 bdO (g9 n (gt s x_1)) fun v10 => (
 cdO v10 (
 some (Sum.inr (x_1))
 ) (
 again7 (G1 (x_1 + 1))
 )
 )
 )
 ) (
 some (Sum.inl ())
 )
 )) 0) fun o13 => (
 match o13 with
 | .inl _ => (
 some ((-1))
 )
 | .inr (r0) => (
 some r0
 ))

def aZ (n : Nat) (s : List Int) : Option (Bool) :=
 bdO (bH n s) fun v1 => (
 some (decide (v1 >= 0))
 )

def ie (n : Nat) (g : al) : Option (Int) :=
 bdO (dU n g.Width) fun v1 => (
 cdO (!v1) (
 some (2)
 ) (
 bdO (dU n g.Height) fun v4 => (
 cdO (!v4) (
 some (2)
 ) (
 cdO (decide (g.Step < 2)) (
 some (2)
 ) (
 cdO (decide (g.Step > 65536)) (
 some (2)
 ) (
 cdO (((g.Step.tmod 2) : Int) != 0) (
 some (2)
 ) (
 bdO (gB n g.X0) fun v10 => (
 cdO v10 (
 some (2)
 ) (
 bdO (gB n g.Y0) fun v13 => (
 cdO v13 (
 some (2)
 ) (
 cdO (((g.Z.length : Int) : Int) != (G1 (g.Width * g.Height))) (
 some (4)
 ) (
 bdO (aZ n g.Z) fun v17 => (
 cdO v17 (
 some (2)
 ) (
 some (0)
 )
 )
 )
 )
 )
 )
 )
 )
 )
 )
 )
 )
 )
 )

def dh (n : Nat) (g : al) (level : Int) : Option (Int) :=
 bdO (ie n g) fun v1 => (
 cdO ((v1 : Int) != 0) (
 some (v1)
 ) (
 cdO (((level.tmod 2) : Int) == 0) (
 some (1)
 ) (
 cdO (decide (level < (-2097153))) (
 some (2)
 ) (
 cdO (decide (level > 2097153)) (
 some (2)
 ) (
 some (0)
 )
 )
 )
 )
 )

def cQ (n : Nat) (k : Int) (p : Int) (p' : Int) (p'' : Int) (CG : Int) (xT : Int) (kA : List Int) (oG : Int) : Option (Bool) :=
 gdO (inR k kA.length) (
 some (decide ((G1 (2 * (gt kA k))) > oG))
 )

def jY (n : Nat) (a : Int) (b : Int) : Option (A2 Int) :=
 some (A2.mk (mn a b) (mx a b))

def eV (n : Nat) (t : A3 Int) (c : Int) (c' : Int) (c'' : Int) (x6 : Int) (tU : Int) (pI : List Int) (mQ : Int) (p : List (A2 Int × A2 Int)) (p' : List (A2 Int × Bool)) : Option (List (A2 Int × A2 Int) × List (A2 Int × Bool)) :=
 bdO (aN (α := Int × Int × Int × Int × Bool × Int) (β := Int × Int × Int × Int × Bool) n (fun again110 (f_71, f_72, t_73, t_74, c_75, x_76) => (
 cdO (decide (x_76 < 3)) (
 gdO (inR x_76 3) (
 gdO (inR ((G1 (x_76 + 1)).tmod 3) 3) (
 bdO (some (A3.get t ((G1 (x_76 + 1)).tmod 3))) fun w115 => (
 bdO (α := Bool) (
 bdO (cQ n (A3.get t x_76) c c' c'' x6 tU pI mQ) fun v120 => (
 cdO v120 (
 bdO (cQ n w115 c c' c'' x6 tU pI mQ) fun v123 => (
 some (!v123)
 )
 ) (
 some (false)
 )
 )
 ) fun x_119 => (
 cdO x_119 (
 bdO (jY n (A3.get t x_76) w115) fun v129 => (
 again110 (v129.e0, v129.e1, t_73, t_74, true, G1 (x_76 + 1))
 )
 ) (
 bdO (cQ n (A3.get t x_76) c c' c'' x6 tU pI mQ) fun v131 => (
 cdO (!v131) (
 bdO (cQ n w115 c c' c'' x6 tU pI mQ) fun v134 => (
 cdO v134 (
 bdO (jY n (A3.get t x_76) w115) fun v137 => (
 again110 (f_71, f_72, v137.e0, v137.e1, c_75, G1 (x_76 + 1))
 )
 ) (
 again110 (f_71, f_72, t_73, t_74, c_75, G1 (x_76 + 1))
 )
 )
 ) (
 again110 (f_71, f_72, t_73, t_74, c_75, G1 (x_76 + 1))
 )
 )
 )
 )
 )
 )
 )
 ) (
 some ((f_71, f_72, t_73, t_74, c_75))
 )
 )) (0, 0, 0, 0, false, 0)) fun o139 => (
 match o139 with
 | (f_105, f_106, t_107, t_108, c_109) => (
 cdO c_109 (
 some ((eE p (A2.mk f_105 f_106) (A2.mk t_107 t_108), eE p' (A2.mk t_107 t_108) true))
 ) (
 some ((p, p'))
 )
 ))

def aS (n : Nat) (g : al) (c : Int) (c' : Int) (c'' : Int) (x6 : Int) (tU : Int) (pI : List Int) (mQ : Int) (uD : List (A2 Int × A2 Int)) (sY : List (A2 Int × Bool)) : Option (List (A2 Int × A2 Int) × List (A2 Int × Bool)) :=
 bdO (aN (α := List (A2 Int × A2 Int) × List (A2 Int × Bool) × Int) (β := List (A2 Int × A2 Int) × List (A2 Int × Bool)) n (fun again272 (c_182, c_183, x_184) => (
 cdO (decide (x_184 < (G1 (g.Height - 1)))) (
 bdO (aN (α := List (A2 Int × A2 Int) × List (A2 Int × Bool) × Int) (β := List (A2 Int × A2 Int) × List (A2 Int × Bool)) n (fun again317 (c_275, c_276, x_277) => (
 cdO (decide (x_277 < (G1 (g.Width - 1)))) (
 bdO (some (G1 ((G1 (x_184 * g.Width)) + x_277))) fun w320 => (
 bdO (some [A3.mk w320 (G1 (w320 + 1)) (G1 ((G1 (w320 + g.Width)) + 1)), A3.mk w320 (G1 ((G1 (w320 + g.Width)) + 1)) (G1 (w320 + g.Width))]) fun w322 => (
 bdO (aN (α := List (A2 Int × A2 Int) × List (A2 Int × Bool) × Int) (β := List (A2 Int × A2 Int) × List (A2 Int × Bool)) n (fun again340 (c_324, c_325, x_326) => (
 cdO (decide (x_326 < 2)) (
 gdO (inR x_326 w322.length) (
 gdO (inR (gt w322 x_326).e0 g.Z.length) (
 cdO (((gt g.Z (gt w322 x_326).e0) : Int) != (-2147483648)) (
 gdO (inR (gt w322 x_326).e1 g.Z.length) (
 cdO (((gt g.Z (gt w322 x_326).e1) : Int) != (-2147483648)) (
 gdO (inR (gt w322 x_326).e2 g.Z.length) (
 cdO (((gt g.Z (gt w322 x_326).e2) : Int) != (-2147483648)) (
 bdO (eV n (gt w322 x_326) c c' c'' x6 tU pI mQ c_324 c_325) fun v350 => (
 again340 (v350.1, v350.2, G1 (x_326 + 1))
 )
 ) (
 again340 (c_324, c_325, G1 (x_326 + 1))
 )
 )
 ) (
 again340 (c_324, c_325, G1 (x_326 + 1))
 )
 )
 ) (
 again340 (c_324, c_325, G1 (x_326 + 1))
 )
 )
 )
 ) (
 some ((c_324, c_325))
 )
 )) (c_275, c_276, 0)) fun o352 => (
 match o352 with
 | (c_338, c_339) => (
 again317 (c_338, c_339, G1 (x_277 + 1))
 ))
 )
 )
 ) (
 some ((c_275, c_276))
 )
 )) (c_182, c_183, 0)) fun o355 => (
 match o355 with
 | (c_315, c_316) => (
 again272 (c_315, c_316, G1 (x_184 + 1))
 ))
 ) (
 some ((c_182, c_183))
 )
 )) (uD, sY, 0)) fun o358 => (
 match o358 with
 | (c_270, c_271) => (
 some ((c_270, c_271))
 ))

def dd (n : Nat) (a : A2 Int) (b : A2 Int) : Option (Int) :=
 cdO ((a.e0 : Int) != b.e0) (
 some (G1 (a.e0 - b.e0))
 ) (
 some (G1 (a.e1 - b.e1))
 )

def au (n : Nat) (x' : List (A2 Int)) : Option (List (A2 Int)) :=
 gdO (decide (x'.length < 4611686018427387904)) (
 r6 (fun x y => dd n x y) x'
 )

def ck (n : Nat) (n' : Int) : Option (List Int) :=
 bdO (aN (α := Int × List Int) (β := List Int) n (fun again7 (n_1, g_2) => (
 cdO (decide (n_1 > 0)) (
 gdO (decide ((g_2.length + 1) * 4 <= 140737488355328)) (
 gdO (decide (g_2.length + 1 <= 4611686018427387904)) (
 again7 (aa .u64 (n_1.tdiv 1000000000), g_2 ++ [aa .u32 (n_1.tmod 1000000000)])
 )
 )
 ) (
 some (g_2)
 )
 )) (n', [])) fun g_6 => (
 some (g_6)
 )

def de (n : Nat) (g : List Int) : Option (List Int) :=
 bdO (aN (α := List Int) (β := List Int) n (fun again7 g_1 => (
 cdO (decide ((g_1.length : Int) > 0)) (
 gdO (inR (G1 ((g_1.length : Int) - 1)) g_1.length) (
 cdO (((gt g_1 (G1 ((g_1.length : Int) - 1))) : Int) == 0) (
 gdO (inS 0 (G1 ((g_1.length : Int) - 1)) g_1.length) (
 again7 ((g_1.drop (0 : Int).toNat).take ((G1 ((g_1.length : Int) - 1)).toNat - (0 : Int).toNat))
 )
 ) (
 some (g_1)
 )
 )
 ) (
 some (g_1)
 )
 )) g) fun g_6 => (
 some (g_6)
 )

def bj (n : Nat) (negative : Bool) (g : List Int) : Option (ae) :=
 bdO (de n g) fun v1 => (
 cdO (((v1.length : Int) : Int) == 0) (
 some (ae.mk false [])
 ) (
 some (ae.mk negative v1)
 )
 )

def e9 (n : Nat) (n' : Int) : Option (ae) :=
 cdO (decide (n' < 0)) (
 bdO (ck n (aa .u64 (0 - (aa .u64 n')))) fun v2 => (
 bdO (bj n true v2) fun v4 => (
 some (v4)
 )
 )
 ) (
 bdO (ck n (aa .u64 n')) fun v6 => (
 bdO (bj n false v6) fun v8 => (
 some (v8)
 )
 )
 )

def lC (n : Nat) (g : Int) : Option (Bool) :=
 some (decide (g >= 1000000000))

def bc (n : Nat) (s : List Int) : Option (Int) :=
 bdO (aN (α := Int) (β := Sum (Unit) (Int)) n (fun again7 x_1 => (
 cdO (decide (x_1 < (s.length : Int))) (
 gdO (inR x_1 s.length) (
 bdO (lC n (gt s x_1)) fun v10 => (
 cdO v10 (
 some (Sum.inr (x_1))
 ) (
 again7 (G1 (x_1 + 1))
 )
 )
 )
 ) (
 some (Sum.inl ())
 )
 )) 0) fun o13 => (
 match o13 with
 | .inl _ => (
 some ((-1))
 )
 | .inr (r0) => (
 some r0
 ))

def aW (n : Nat) (s : List Int) : Option (Bool) :=
 bdO (bc n s) fun v1 => (
 some (decide (v1 >= 0))
 )

def dD (n : Nat) (x' : ae) : Option (Bool) :=
 cdO (((x'.Groups.length : Int) : Int) == 0) (
 some (!x'.Negative)
 ) (
 gdO (inR (G1 ((x'.Groups.length : Int) - 1)) x'.Groups.length) (
 cdO (((gt x'.Groups (G1 ((x'.Groups.length : Int) - 1))) : Int) != 0) (
 bdO (aW n x'.Groups) fun v4 => (
 some (!v4)
 )
 ) (
 some (false)
 )
 )
 )

def ee (n : Nat) (n' : ae) : Option (ae) :=
 bdO (dD n n') fun v1 => (
 cdO v1 (
 some (n')
 ) (
 bdO (e9 n 0) fun v4 => (
 some (v4)
 )
 )
 )

def bg (n : Nat) (x' : ae) : Option (List Int) :=
 bdO (dD n x') fun v1 => (
 cdO (!v1) (
 some ([])
 ) (
 some (x'.Groups)
 )
 )

def cU (n : Nat) (x' : ae) : Option (Int) :=
 bdO (bg n x') fun v1 => (
 cdO (((v1.length : Int) : Int) == 0) (
 some (0)
 ) (
 cdO x'.Negative (
 some ((-1))
 ) (
 some (1)
 )
 )
 )

def bV (n : Nat) (s : List Int) : Option (List Int) :=
 gdO (decide ((0 + s.length) * 4 <= 140737488355328)) (
 gdO (decide (0 + s.length <= 4611686018427387904)) (
 some (s)
 )
 )

def dw (n : Nat) (x' : ae) : Option (ae) :=
 bdO (bg n x') fun v1 => (
 bdO (bV n v1) fun v3 => (
 bdO (bj n (!x'.Negative) v3) fun v5 => (
 some (v5)
 )
 )
 )




def ib (n : Nat) (a : List Int) (b : List Int) : Option (List Int) :=
 gdO (decide (0 <= G1 ((a.length : Int) + (b.length : Int)))) (
 gdO (decide ((4 : Int) * (G1 ((a.length : Int) + (b.length : Int))) <= 281474976710656)) (
 gdO (decide (G1 ((a.length : Int) + (b.length : Int)) <= 9223372036854775807)) (
 bdO (aN (α := List Int × Int) (β := List Int) n (fun again25 (o_4, x_5) => (
 cdO (decide (x_5 < (a.length : Int))) (
 gdO (inR x_5 a.length) (
 bdO (aN (α := List Int × Int × Int) (β := List Int × Int) n (fun again36 (o_28, c_29, x_30) => (
 cdO (decide (x_30 < (b.length : Int))) (
 gdO (inR x_30 b.length) (
 gdO (inR (G1 (x_5 + x_30)) o_28.length) (
 again36 (o_28.set (G1 (x_5 + x_30)).toNat (aa .u32 ((aa .u64 ((aa .u64 ((aa .u64 (gt o_28 (G1 (x_5 + x_30)))) + (aa .u64 ((aa .u64 (gt a x_5)) * (aa .u64 (gt b x_30)))))) + c_29)).tmod 1000000000)), aa .u64 ((aa .u64 ((aa .u64 ((aa .u64 (gt o_28 (G1 (x_5 + x_30)))) + (aa .u64 ((aa .u64 (gt a x_5)) * (aa .u64 (gt b x_30)))))) + c_29)).tdiv 1000000000), G1 (x_30 + 1))
 )
 )
 ) (
 some ((o_28, c_29))
 )
 )) (o_4, 0, 0)) fun o40 => (
 match o40 with
 | (o_34, c_35) => (
 gdO (inR (G1 (x_5 + (b.length : Int))) o_34.length) (
 again25 (o_34.set (G1 (x_5 + (b.length : Int))).toNat (aa .u32 c_35), G1 (x_5 + 1))
 )
 ))
 )
 ) (
 some (o_4)
 )
 )) (List.replicate (G1 ((a.length : Int) + (b.length : Int))).toNat ((0 : Int) : Int), 0)) fun o_24 => (
 bdO (de n o_24) fun v47 => (
 some (v47)
 )
 )
 )
 )
 )

def mE (n : Nat) (g : List Int) : Option (List Int) :=
 bdO (aN (α := List Int) (β := List Int) n (fun again22 g_16 => (
 cdO (decide ((g_16.length : Int) > 0)) (
 gdO (inR (G1 ((g_16.length : Int) - 1)) g_16.length) (
 cdO (((gt g_16 (G1 ((g_16.length : Int) - 1))) : Int) == 0) (
 gdO (inS 0 (G1 ((g_16.length : Int) - 1)) g_16.length) (
 again22 (g_16.take (G1 ((g_16.length : Int) - 1)).toNat)
 )
 ) (
 some (g_16)
 )
 )
 ) (
 some (g_16)
 )
 )) g) fun g_21 => (
 some (g_21)
 )

def gQ (n : Nat) (a : List Int) (b : List Int) : Option (List Int) :=
 gdO (decide (0 <= G1 ((a.length : Int) + (b.length : Int)))) (
 gdO (decide ((4 : Int) * (G1 ((a.length : Int) + (b.length : Int))) <= 281474976710656)) (
 gdO (decide (G1 ((a.length : Int) + (b.length : Int)) <= 9223372036854775807)) (
 bdO (aN (α := List Int × Int) (β := List Int) n (fun again74 (o_53, x_54) => (
 cdO (decide (x_54 < (a.length : Int))) (
 gdO (inR x_54 a.length) (
 bdO (aN (α := List Int × Int × Int) (β := List Int × Int) n (fun again85 (o_77, c_78, x_79) => (
 cdO (decide (x_79 < (b.length : Int))) (
 gdO (inR x_79 b.length) (
 gdO (inR (G1 (x_54 + x_79)) o_77.length) (
 again85 (o_77.set (G1 (x_54 + x_79)).toNat (aa .u32 ((aa .u64 ((aa .u64 ((aa .u64 (gt o_77 (G1 (x_54 + x_79)))) + (aa .u64 ((aa .u64 (gt a x_54)) * (aa .u64 (gt b x_79)))))) + c_78)).tmod 1000000000)), aa .u64 ((aa .u64 ((aa .u64 ((aa .u64 (gt o_77 (G1 (x_54 + x_79)))) + (aa .u64 ((aa .u64 (gt a x_54)) * (aa .u64 (gt b x_79)))))) + c_78)).tdiv 1000000000), G1 (x_79 + 1))
 )
 )
 ) (
 some ((o_77, c_78))
 )
 )) (o_53, 0, 0)) fun o89 => (
 match o89 with
 | (o_83, c_84) => (
 gdO (inR (G1 (x_54 + (b.length : Int))) o_83.length) (
 again74 (o_83.set (G1 (x_54 + (b.length : Int))).toNat (aa .u32 c_84), G1 (x_54 + 1))
 )
 ))
 )
 ) (
 some (o_53)
 )
 )) (List.replicate (G1 ((a.length : Int) + (b.length : Int))).toNat ((0 : Int) : Int), 0)) fun o_73 => (
 bdO (mE n o_73) fun v96 => (
 some (v96)
 )
 )
 )
 )
 )

def fB (n : Nat) (g : List Int) (i : Int) : Option (Int) :=
 cdO (decide (i < (g.length : Int))) (
 gdO (inR i g.length) (
 some ((gt g i))
 )
 ) (
 some (0)
 )

def gF (n : Nat) (a : List Int) (b : List Int) : Option (List Int × List Int) :=
 gdO (inR (G1 ((b.length : Int) - 1)) b.length) (
 gdO (!decide (aa .u64 ((aa .u64 (gt b (G1 ((b.length : Int) - 1)))) + 1) = 0)) (
 bdO (gQ n a [aa .u32 (aa .u64 ((1000000000 : Int).tdiv (aa .u64 ((aa .u64 (gt b (G1 ((b.length : Int) - 1)))) + 1))))]) fun v3 => (
 bdO (gQ n b [aa .u32 (aa .u64 ((1000000000 : Int).tdiv (aa .u64 ((aa .u64 (gt b (G1 ((b.length : Int) - 1)))) + 1))))]) fun v5 => (
 gdO (decide ((v3.length + 1) * 4 <= 140737488355328)) (
 gdO (decide (v3.length + 1 <= 4611686018427387904)) (
 bdO (α := List Int) (
 cdO (decide (((v3 ++ [(0 : Int)]).length : Int) <= (a.length : Int))) (
 gdO (decide (((v3 ++ [(0 : Int)]).length + 1) * 4 <= 140737488355328)) (
 gdO (decide ((v3 ++ [(0 : Int)]).length + 1 <= 4611686018427387904)) (
 some ((v3 ++ [(0 : Int)]) ++ [(0 : Int)])
 )
 )
 ) (
 some (v3 ++ [(0 : Int)])
 )
 ) fun u_9 => (
 gdO (decide (0 <= G1 ((u_9.length : Int) - (v5.length : Int)))) (
 gdO (decide ((4 : Int) * (G1 ((u_9.length : Int) - (v5.length : Int))) <= 281474976710656)) (
 gdO (decide (G1 ((u_9.length : Int) - (v5.length : Int)) <= 9223372036854775807)) (
 bdO (aN (α := List Int × List Int × Int) (β := List Int × List Int) n (fun again129 (q_19, u_20, j_21) => (
 cdO (decide (j_21 >= 0)) (
 bdO (fB n u_20 (G1 (j_21 + (v5.length : Int)))) fun v132 => (
 gdO (inR (G1 ((G1 (j_21 + (v5.length : Int))) - 1)) u_20.length) (
 gdO (inR (G1 ((v5.length : Int) - 1)) v5.length) (
 gdO (!decide (aa .u64 (gt v5 (G1 ((v5.length : Int) - 1))) = 0)) (
 bdO (aN (α := Int × Int) (β := Int) n (fun again165 (g_156, r_157) => (
 cdO (decide (g_156 >= 1000000000)) (
 cdO (decide ((aa .u64 (r_157 + (aa .u64 (gt v5 (G1 ((v5.length : Int) - 1)))))) >= 1000000000)) (
 some (aa .u64 (g_156 - 1))
 ) (
 again165 (aa .u64 (g_156 - 1), aa .u64 (r_157 + (aa .u64 (gt v5 (G1 ((v5.length : Int) - 1))))))
 )
 ) (
 gdO (inR (G1 ((v5.length : Int) - 2)) v5.length) (
 gdO (inR (G1 ((G1 (j_21 + (v5.length : Int))) - 2)) u_20.length) (
 cdO (decide ((aa .u64 (g_156 * (aa .u64 (gt v5 (G1 ((v5.length : Int) - 2)))))) > (aa .u64 ((aa .u64 (r_157 * 1000000000)) + (aa .u64 (gt u_20 (G1 ((G1 (j_21 + (v5.length : Int))) - 2)))))))) (
 cdO (decide ((aa .u64 (r_157 + (aa .u64 (gt v5 (G1 ((v5.length : Int) - 1)))))) >= 1000000000)) (
 some (aa .u64 (g_156 - 1))
 ) (
 again165 (aa .u64 (g_156 - 1), aa .u64 (r_157 + (aa .u64 (gt v5 (G1 ((v5.length : Int) - 1))))))
 )
 ) (
 some (g_156)
 )
 )
 )
 )
 )) (aa .u64 ((aa .u64 ((aa .u64 ((aa .u64 v132) * 1000000000)) + (aa .u64 (gt u_20 (G1 ((G1 (j_21 + (v5.length : Int))) - 1)))))).tdiv (aa .u64 (gt v5 (G1 ((v5.length : Int) - 1))))), (aa .u64 ((aa .u64 ((aa .u64 v132) * 1000000000)) + (aa .u64 (gt u_20 (G1 ((G1 (j_21 + (v5.length : Int))) - 1)))))).tmod (aa .u64 (gt v5 (G1 ((v5.length : Int) - 1)))))) fun g_164 => (
 bdO (aN (α := List Int × Int × Int × Int) (β := List Int × Int × Int) n (fun again205 (u_194, b_195, c_196, x_197) => (
 cdO (decide (x_197 < (v5.length : Int))) (
 gdO (inR x_197 v5.length) (
 gdO (inR (G1 (x_197 + j_21)) u_194.length) (
 cdO (decide ((G1 ((G1 ((G1 (gt u_194 (G1 (x_197 + j_21)))) - b_195)) - (G1 ((aa .u64 ((aa .u64 (g_164 * (aa .u64 (gt v5 x_197)))) + c_196)).tmod 1000000000)))) < 0)) (
 again205 (u_194.set (G1 (x_197 + j_21)).toNat (aa .u32 (G1 ((G1 ((G1 ((G1 (gt u_194 (G1 (x_197 + j_21)))) - b_195)) - (G1 ((aa .u64 ((aa .u64 (g_164 * (aa .u64 (gt v5 x_197)))) + c_196)).tmod 1000000000)))) + 1000000000))), 1, aa .u64 ((aa .u64 ((aa .u64 (g_164 * (aa .u64 (gt v5 x_197)))) + c_196)).tdiv 1000000000), G1 (x_197 + 1))
 ) (
 again205 (u_194.set (G1 (x_197 + j_21)).toNat (aa .u32 (G1 ((G1 ((G1 (gt u_194 (G1 (x_197 + j_21)))) - b_195)) - (G1 ((aa .u64 ((aa .u64 (g_164 * (aa .u64 (gt v5 x_197)))) + c_196)).tmod 1000000000))))), 0, aa .u64 ((aa .u64 ((aa .u64 (g_164 * (aa .u64 (gt v5 x_197)))) + c_196)).tdiv 1000000000), G1 (x_197 + 1))
 )
 )
 )
 ) (
 some ((u_194, b_195, c_196))
 )
 )) (u_20, 0, 0, 0)) fun o210 => (
 match o210 with
 | (u_202, b_203, c_204) => (
 gdO (inR (G1 (j_21 + (v5.length : Int))) u_202.length) (
 cdO (decide ((G1 ((G1 ((G1 (gt u_202 (G1 (j_21 + (v5.length : Int))))) - b_203)) - (G1 c_204))) < 0)) (
 bdO (aN (α := List Int × Int × Int) (β := List Int × Int) n (fun again224 (u_215, c_216, x_217) => (
 cdO (decide (x_217 < (v5.length : Int))) (
 gdO (inR (G1 (x_217 + j_21)) u_215.length) (
 gdO (inR x_217 v5.length) (
 cdO (decide ((aa .u32 ((aa .u32 ((gt u_215 (G1 (x_217 + j_21))) + (gt v5 x_217))) + c_216)) >= 1000000000)) (
 again224 (u_215.set (G1 (x_217 + j_21)).toNat (aa .u32 ((aa .u32 ((aa .u32 ((gt u_215 (G1 (x_217 + j_21))) + (gt v5 x_217))) + c_216)) - 1000000000)), 1, G1 (x_217 + 1))
 ) (
 again224 (u_215.set (G1 (x_217 + j_21)).toNat (aa .u32 ((aa .u32 ((gt u_215 (G1 (x_217 + j_21))) + (gt v5 x_217))) + c_216)), 0, G1 (x_217 + 1))
 )
 )
 )
 ) (
 some ((u_215, c_216))
 )
 )) (u_202.set (G1 (j_21 + (v5.length : Int))).toNat (aa .u32 (G1 ((G1 ((G1 ((G1 (gt u_202 (G1 (j_21 + (v5.length : Int))))) - b_203)) - (G1 c_204))) + 1000000000))), 0, 0)) fun o229 => (
 match o229 with
 | (u_222, c_223) => (
 gdO (inR (G1 (j_21 + (v5.length : Int))) u_222.length) (
 gdO (inR j_21 q_19.length) (
 again129 (q_19.set j_21.toNat (aa .u32 (aa .u64 (g_164 - 1))), u_222.set (G1 (j_21 + (v5.length : Int))).toNat ((aa .u32 ((gt u_222 (G1 (j_21 + (v5.length : Int)))) + c_223)).tmod 1000000000), G1 (j_21 - 1))
 )
 )
 ))
 ) (
 gdO (inR j_21 q_19.length) (
 again129 (q_19.set j_21.toNat (aa .u32 g_164), u_202.set (G1 (j_21 + (v5.length : Int))).toNat (aa .u32 (G1 ((G1 ((G1 (gt u_202 (G1 (j_21 + (v5.length : Int))))) - b_203)) - (G1 c_204)))), G1 (j_21 - 1))
 )
 )
 )
 ))
 )
 )
 )
 )
 )
 ) (
 some ((q_19, u_20))
 )
 )) (List.replicate (G1 ((u_9.length : Int) - (v5.length : Int))).toNat ((0 : Int) : Int), u_9, G1 ((G1 ((u_9.length : Int) - (v5.length : Int))) - 1))) fun o235 => (
 match o235 with
 | (q_127, u_128) => (
 gdO (inS 0 (v5.length : Int) u_128.length) (
 bdO (de n (u_128.take (v5.length : Int).toNat)) fun v239 => (
 bdO (eO n v239 (aa .u32 (aa .u64 ((1000000000 : Int).tdiv (aa .u64 ((aa .u64 (gt b (G1 ((b.length : Int) - 1)))) + 1)))))) fun v241 => (
 bdO (de n q_127) fun v243 => (
 some ((v243, v241.1))
 )
 )
 )
 )
 ))
 )
 )
 )
 )
 )
 )
 )
 )
 )
 )

def gb (n : Nat) (a : List Int) (b : List Int) : Option (List Int × List Int) :=
 bdO (e8 n a b) fun v1 => (
 cdO (decide (v1 < 0)) (
 some (([], a))
 ) (
 bdO (fV n a) fun v4 => (
 bdO (fV n b) fun v6 => (
 cdO v4.2 (
 cdO v6.2 (
 gdO (!decide (v6.1 = 0)) (
 bdO (ck n (aa .u64 (v4.1.tdiv v6.1))) fun v11 => (
 bdO (ck n (v4.1.tmod v6.1)) fun v13 => (
 some ((v11, v13))
 )
 )
 )
 ) (
 cdO (((b.length : Int) : Int) == 1) (
 gdO (inR 0 b.length) (
 bdO (eO n a (gt b 0)) fun v17 => (
 bdO (ck n (aa .u64 v17.2)) fun v19 => (
 some ((v17.1, v19))
 )
 )
 )
 ) (
 bdO (gF n a b) fun v21 => (
 some ((v21.1, v21.2))
 )
 )
 )
 ) (
 cdO (((b.length : Int) : Int) == 1) (
 gdO (inR 0 b.length) (
 bdO (eO n a (gt b 0)) fun v25 => (
 bdO (ck n (aa .u64 v25.2)) fun v27 => (
 some ((v25.1, v27))
 )
 )
 )
 ) (
 bdO (gF n a b) fun v29 => (
 some ((v29.1, v29.2))
 )
 )
 )
 )
 )
 )
 )

def gC (n : Nat) (x' : ae) (y : ae) : Option (ae) :=
 bdO (bg n x') fun v1 => (
 bdO (bg n y) fun v3 => (
 bdO (aN (α := List Int × List Int) (β := Sum (List Int) (ae)) n (fun again34 (a_5, b_6) => (
 cdO (decide ((b_6.length : Int) > 0)) (
 bdO (fV n a_5) fun v36 => (
 bdO (fV n b_6) fun v38 => (
 cdO v36.2 (
 cdO v38.2 (
 bdO (aN (α := Int × Int) (β := Int) n (fun again47 (m_42, n_43) => (
 cdO (decide (n_43 > 0)) (
 gdO (!decide (n_43 = 0)) (
 again47 (n_43, m_42.tmod n_43)
 )
 ) (
 some (m_42)
 )
 )) (v36.1, v38.1)) fun m_46 => (
 bdO (ck n m_46) fun v53 => (
 bdO (bj n false v53) fun v55 => (
 some (Sum.inr (v55))
 )
 )
 )
 ) (
 bdO (gb n a_5 b_6) fun v57 => (
 again34 (b_6, v57.2)
 )
 )
 ) (
 bdO (gb n a_5 b_6) fun v59 => (
 again34 (b_6, v59.2)
 )
 )
 )
 )
 ) (
 some (Sum.inl a_5)
 )
 )) (v1, v3)) fun o61 => (
 match o61 with
 | .inl a_33 => (
 bdO (bV n a_33) fun v64 => (
 bdO (bj n false v64) fun v66 => (
 some (v66)
 )
 )
 )
 | .inr (r0) => (
 some r0
 ))
 )
 )

def je (n : Nat) (a : List Int) (b : List Int) : Option (List Int) :=
 gdO (decide (0 <= G1 ((mx (a.length : Int) (b.length : Int)) + 1))) (
 gdO (decide ((4 : Int) * (G1 ((mx (a.length : Int) (b.length : Int)) + 1)) <= 281474976710656)) (
 gdO (decide (G1 ((mx (a.length : Int) (b.length : Int)) + 1) <= 9223372036854775807)) (
 bdO (aN (α := List Int × Int × Int) (β := List Int) n (fun again16 (o_4, c_5, x_6) => (
 cdO (decide (x_6 < ((List.replicate (G1 ((mx (a.length : Int) (b.length : Int)) + 1)).toNat ((0 : Int) : Int)).length : Int))) (
 bdO (fB n a x_6) fun v18 => (
 bdO (fB n b x_6) fun v20 => (
 cdO (decide ((aa .u32 ((aa .u32 (v18 + v20)) + c_5)) >= 1000000000)) (
 gdO (inR x_6 o_4.length) (
 again16 (o_4.set x_6.toNat (aa .u32 ((aa .u32 ((aa .u32 (v18 + v20)) + c_5)) - 1000000000)), 1, G1 (x_6 + 1))
 )
 ) (
 gdO (inR x_6 o_4.length) (
 again16 (o_4.set x_6.toNat (aa .u32 ((aa .u32 (v18 + v20)) + c_5)), 0, G1 (x_6 + 1))
 )
 )
 )
 )
 ) (
 some (o_4)
 )
 )) (List.replicate (G1 ((mx (a.length : Int) (b.length : Int)) + 1)).toNat ((0 : Int) : Int), 0, 0)) fun o_15 => (
 bdO (de n o_15) fun v28 => (
 some (v28)
 )
 )
 )
 )
 )

def gh (n : Nat) (a : List Int) (b : List Int) : Option (List Int) :=
 gdO (decide (0 <= (a.length : Int))) (
 gdO (decide ((4 : Int) * (a.length : Int) <= 281474976710656)) (
 gdO (decide ((a.length : Int) <= 9223372036854775807)) (
 bdO (aN (α := List Int × Int × Int) (β := List Int) n (fun again15 (o_4, b_5, x_6) => (
 cdO (decide (x_6 < ((List.replicate (a.length : Int).toNat ((0 : Int) : Int)).length : Int))) (
 bdO (fB n b x_6) fun v17 => (
 gdO (inR x_6 a.length) (
 cdO (decide ((gt a x_6) < (aa .u32 (v17 + b_5)))) (
 gdO (inR x_6 o_4.length) (
 again15 (o_4.set x_6.toNat (aa .u32 ((aa .u32 ((gt a x_6) + 1000000000)) - (aa .u32 (v17 + b_5)))), 1, G1 (x_6 + 1))
 )
 ) (
 gdO (inR x_6 o_4.length) (
 again15 (o_4.set x_6.toNat (aa .u32 ((gt a x_6) - (aa .u32 (v17 + b_5)))), 0, G1 (x_6 + 1))
 )
 )
 )
 )
 ) (
 some (o_4)
 )
 )) (List.replicate (a.length : Int).toNat ((0 : Int) : Int), 0, 0)) fun o_14 => (
 bdO (de n o_14) fun v26 => (
 some (v26)
 )
 )
 )
 )
 )

def cG (n : Nat) (x' : ae) (y : ae) : Option (ae × ae × Int) :=
 bdO (bg n x') fun v1 => (
 bdO (bg n y) fun v3 => (
 cdO (((v3.length : Int) : Int) == 0) (
 some ((ae.mk false [], ae.mk false [], 14))
 ) (
 bdO (gb n v1 v3) fun v6 => (
 bdO (bV n v6.2) fun v8 => (
 cdO (decide ((v8.length : Int) > 0)) (
 cdO (x'.Negative != y.Negative) (
 bdO (je n v6.1 [(1 : Int)]) fun v12 => (
 bdO (gh n v3 v8) fun v14 => (
 bdO (bj n true v12) fun v16 => (
 bdO (bj n y.Negative v14) fun v18 => (
 some ((v16, v18, 0))
 )
 )
 )
 )
 ) (
 bdO (bj n false v6.1) fun v20 => (
 bdO (bj n y.Negative v8) fun v22 => (
 some ((v20, v22, 0))
 )
 )
 )
 ) (
 bdO (bj n (x'.Negative != y.Negative) v6.1) fun v24 => (
 bdO (bj n y.Negative v8) fun v26 => (
 some ((v24, v26, 0))
 )
 )
 )
 )
 )
 )
 )
 )

def dj (n : Nat) (num : ae) (den : ae) : Option (aj) :=
 bdO (cU n den) fun v1 => (
 cdO (decide (v1 < 0)) (
 bdO (dw n num) fun v4 => (
 bdO (dw n den) fun v6 => (
 bdO (gC n v4 v6) fun v8 => (
 bdO (cG n v4 v8) fun v10 => (
 bdO (cG n v6 v8) fun v12 => (
 some (aj.mk v10.1 v12.1)
 )
 )
 )
 )
 )
 ) (
 bdO (gC n num den) fun v14 => (
 bdO (cG n num v14) fun v16 => (
 bdO (cG n den v14) fun v18 => (
 some (aj.mk v16.1 v18.1)
 )
 )
 )
 )
 )

def j4 (n : Nat) (num : ae) (den : ae) : Option (aj × Int) :=
 bdO (ee n num) fun v1 => (
 bdO (ee n den) fun v3 => (
 bdO (cU n v3) fun v5 => (
 cdO ((v5 : Int) == 0) (
 some ((aj.mk (ae.mk false []) (ae.mk false []), 14))
 ) (
 bdO (dj n v1 v3) fun v8 => (
 some ((v8, 0))
 )
 )
 )
 )
 )

def fY (n : Nat) (n' : Int) (d : Int) : Option (aj × Int) :=
 bdO (e9 n n') fun v1 => (
 bdO (e9 n d) fun v3 => (
 bdO (j4 n v1 v3) fun v5 => (
 some ((v5.1, v5.2))
 )
 )
 )

def cj (n : Nat) (g : al) (level : Int) (e : A2 Int) : Option (ak) :=
 gdO (inR e.e0 g.Z.length) (
 gdO (inR e.e1 g.Z.length) (
 bdO (fY n (G1 (level - (G1 (2 * (gt g.Z e.e0))))) (G1 (2 * (G1 ((gt g.Z e.e1) - (gt g.Z e.e0)))))) fun v3 => (
 some (ak.mk e.e0 e.e1 v3.1)
 )
 )
 )

def c5 (n : Nat) (start : A2 Int) (closed : Bool) (p : List (A2 Int × Bool)) (p' : Int) (p'' : Int) (CG : Int) (xT : Int) (kA : Int) (oG : List Int) (nO : Int) (jd : List (A2 Int × A2 Int)) (iO : List ah) : Option (List (A2 Int × Bool) × List ah) :=
 bdO (aN (α := List (A2 Int × Bool) × List ak × Int × Int) (β := List (A2 Int × Bool) × List ak) n (fun again39 (p_27, c_28, a_29, a_30) => (
 bdO (cj n (al.mk p' p'' CG xT kA oG) nO (A2.mk a_29 a_30)) fun v40 => (
 gdO (decide ((c_28.length + 1) * 80 <= 140737488355328)) (
 gdO (decide (c_28.length + 1 <= 4611686018427387904)) (
 cdO (!(dB jd (A2.mk a_29 a_30))) (
 some ((eE p_27 (A2.mk a_29 a_30) true, c_28 ++ [v40]))
 ) (
 cdO (getM false (eE p_27 (A2.mk a_29 a_30) true) (getM (A2.mk 0 0 : A2 Int) jd (A2.mk a_29 a_30))) (
 some ((eE p_27 (A2.mk a_29 a_30) true, c_28 ++ [v40]))
 ) (
 again39 (eE p_27 (A2.mk a_29 a_30) true, c_28 ++ [v40], (getM (A2.mk 0 0 : A2 Int) jd (A2.mk a_29 a_30)).e0, (getM (A2.mk 0 0 : A2 Int) jd (A2.mk a_29 a_30)).e1)
 )
 )
 )
 )
 )
 )) (p, [], start.e0, start.e1)) fun o46 => (
 match o46 with
 | (p_37, c_38) => (
 gdO (decide ((iO.length + 1) * 32 <= 140737488355328)) (
 gdO (decide (iO.length + 1 <= 4611686018427387904)) (
 some ((p_37, iO ++ [ah.mk closed c_38]))
 )
 )
 ))

def dC (n : Nat) (c : ah) : Option (A2 Int) :=
 gdO (inR 0 c.Points.length) (
 some (A2.mk (gt c.Points 0).A (gt c.Points 0).B)
 )

def gU (n : Nat) (a : ah) (b : ah) : Option (Int) :=
 bdO (dC n a) fun v1 => (
 bdO (dC n b) fun v3 => (
 bdO (dd n v1 v3) fun v5 => (
 some (v5)
 )
 )
 )

def aF (n : Nat) (x' : List ah) : Option (List ah) :=
 gdO (decide (x'.length < 4611686018427387904)) (
 r6 (fun x y => gU n x y) x'
 )

noncomputable def fp (n : Nat) (g : al) (level : Int) : Option (List ah) :=
 bdO (aS n g g.X0 g.Y0 g.Step g.Width g.Height g.Z level ([] : List (A2 Int × A2 Int)) ([] : List (A2 Int × Bool))) fun v1 => (
 yw (ε := A2 Int × A2 Int) (σ := List (A2 Int)) v1.1 (fun s_16 e12 => (
 gdO (decide ((s_16.length + 1) * 16 <= 140737488355328)) (
 gdO (decide (s_16.length + 1 <= 4611686018427387904)) (
 some (s_16 ++ [e12.1])
 )
 )
 )) [] fun s_16 => (
 bdO (au n s_16) fun v21 => (
 gdO (decide (v21.length = s_16.length)) (
 bdO (aN (α := List (A2 Int × Bool) × List ah × Int) (β := List (A2 Int × Bool) × List ah) n (fun again56 (d_45, o_46, x_47) => (
 cdO (decide (x_47 < (s_16.length : Int))) (
 gdO (inR x_47 v21.length) (
 cdO (!(getM false v1.2 (gt v21 x_47))) (
 bdO (c5 n (gt v21 x_47) false d_45 g.X0 g.Y0 g.Step g.Width g.Height g.Z level v1.1 o_46) fun v61 => (
 again56 (v61.1, v61.2, G1 (x_47 + 1))
 )
 ) (
 again56 (d_45, o_46, G1 (x_47 + 1))
 )
 )
 ) (
 some ((d_45, o_46))
 )
 )) (([] : List (A2 Int × Bool)), [], 0)) fun o63 => (
 match o63 with
 | (d_54, o_55) => (
 bdO (aN (α := List (A2 Int × Bool) × List ah × Int) (β := List ah) n (fun again76 (d_66, o_67, x_68) => (
 cdO (decide (x_68 < (v21.length : Int))) (
 gdO (inR x_68 v21.length) (
 cdO (!(getM false d_66 (gt v21 x_68))) (
 bdO (c5 n (gt v21 x_68) true d_66 g.X0 g.Y0 g.Step g.Width g.Height g.Z level v1.1 o_67) fun v81 => (
 again76 (v81.1, v81.2, G1 (x_68 + 1))
 )
 ) (
 again76 (d_66, o_67, G1 (x_68 + 1))
 )
 )
 ) (
 some (o_67)
 )
 )) (d_54, o_55, 0)) fun o_75 => (
 bdO (aF n o_75) fun v86 => (
 gdO (decide (v86.length = o_75.length)) (
 some (v86)
 )
 )
 )
 ))
 )
 )
 )
 )

noncomputable def fq (n : Nat) (g : al) (level : Int) : Option (List ah × Int) :=
 bdO (dh n g level) fun v1 => (
 cdO ((v1 : Int) != 0) (
 some (([], v1))
 ) (
 bdO (fp n g level) fun v4 => (
 some ((v4, 0))
 )
 )
 )

def bJ (n : Nat) (n' : Int) : Option (aj) :=
 bdO (e9 n n') fun v1 => (
 bdO (e9 n 1) fun v3 => (
 some (aj.mk v1 v3)
 )
 )

def jo (n : Nat) (x' : Int) : Option (Bool) :=
 some ((x' : Int) != x')

def gR (n : Nat) (x' : Int) (y : Int) : Option (Int) :=
 bdO (jo n x') fun v1 => (
 bdO (jo n y) fun v3 => (
 cdO v1 (
 cdO v3 (
 some (0)
 ) (
 some ((-1))
 )
 ) (
 cdO v3 (
 some (1)
 ) (
 cdO (decide (x' < y)) (
 some ((-1))
 ) (
 cdO (decide (x' > y)) (
 some (1)
 ) (
 some (0)
 )
 )
 )
 )
 )
 )

def fR (n : Nat) (x' : ae) (y : ae) : Option (Int) :=
 bdO (cU n x') fun v1 => (
 bdO (cU n y) fun v3 => (
 cdO ((v1 : Int) != v3) (
 bdO (gR n v1 v3) fun v6 => (
 some (v6)
 )
 ) (
 bdO (bg n x') fun v8 => (
 bdO (bg n y) fun v10 => (
 bdO (e8 n v8 v10) fun v12 => (
 cdO x'.Negative (
 some (G1 (0 - v12))
 ) (
 some (v12)
 )
 )
 )
 )
 )
 )
 )

def cH (n : Nat) (x' : aj) : Option (Bool) :=
 bdO (dD n x'.Num) fun v1 => (
 cdO (!v1) (
 some (false)
 ) (
 bdO (dD n x'.Den) fun v4 => (
 cdO (!v4) (
 some (false)
 ) (
 bdO (cU n x'.Den) fun v7 => (
 cdO (decide (v7 <= 0)) (
 some (false)
 ) (
 bdO (gC n x'.Num x'.Den) fun v10 => (
 bdO (e9 n 1) fun v12 => (
 bdO (fR n v10 v12) fun v14 => (
 some ((v14 : Int) == 0)
 )
 )
 )
 )
 )
 )
 )
 )
 )

def gY (n : Nat) (x' : aj) : Option (aj) :=
 bdO (dw n x'.Num) fun v1 => (
 bdO (dw n v1) fun v3 => (
 bdO (dw n x'.Den) fun v5 => (
 bdO (dw n v5) fun v7 => (
 some (aj.mk v3 v7)
 )
 )
 )
 )

def bI (n : Nat) (x' : aj) : Option (aj) :=
 bdO (cH n x') fun v1 => (
 cdO v1 (
 bdO (gY n x') fun v4 => (
 some (v4)
 )
 ) (
 bdO (bJ n 0) fun v6 => (
 some (v6)
 )
 )
 )

def bE (n : Nat) (x' : aj) : Option (Int) :=
 bdO (bI n x') fun v1 => (
 bdO (cU n v1.Num) fun v3 => (
 some (v3)
 )
 )

def ka (n : Nat) (x' : aj) : Option (aj) :=
 bdO (bI n x') fun v1 => (
 bdO (dw n v1.Num) fun v3 => (
 some (aj.mk v3 v1.Den)
 )
 )

def cJ (n : Nat) (x' : ae) (y : ae) : Option (ae) :=
 bdO (bg n x') fun v1 => (
 bdO (bg n y) fun v3 => (
 bdO (ib n v1 v3) fun v5 => (
 bdO (bj n (x'.Negative != y.Negative) v5) fun v7 => (
 some (v7)
 )
 )
 )
 )

def kY (n : Nat) (negative : Bool) (a : List Int) (other : Bool) (b : List Int) : Option (ae) :=
 cdO (negative == other) (
 bdO (je n a b) fun v2 => (
 bdO (bj n negative v2) fun v4 => (
 some (v4)
 )
 )
 ) (
 bdO (e8 n a b) fun v6 => (
 cdO (decide (v6 >= 0)) (
 bdO (gh n a b) fun v9 => (
 bdO (bj n negative v9) fun v11 => (
 some (v11)
 )
 )
 ) (
 bdO (gh n b a) fun v13 => (
 bdO (bj n other v13) fun v15 => (
 some (v15)
 )
 )
 )
 )
 )

def kW (n : Nat) (x' : ae) (y : ae) : Option (ae) :=
 bdO (bg n x') fun v1 => (
 bdO (bg n y) fun v3 => (
 bdO (kY n x'.Negative v1 y.Negative v3) fun v5 => (
 some (v5)
 )
 )
 )

def eL (n : Nat) (x' : aj) (y : aj) : Option (aj) :=
 bdO (bI n x') fun v1 => (
 bdO (bI n y) fun v3 => (
 bdO (cJ n v1.Num v3.Den) fun v5 => (
 bdO (cJ n v3.Num v1.Den) fun v7 => (
 bdO (kW n v5 v7) fun v9 => (
 bdO (cJ n v1.Den v3.Den) fun v11 => (
 bdO (dj n v9 v11) fun v13 => (
 some (v13)
 )
 )
 )
 )
 )
 )
 )

def cC (n : Nat) (x' : aj) (y : aj) : Option (aj) :=
 bdO (ka n y) fun v1 => (
 bdO (eL n x' v1) fun v3 => (
 some (v3)
 )
 )

def jw (n : Nat) (p : aj) (p' : aj) (p'' : aj) (tip : aj) : Option (aj) :=
 bdO (bJ n 1) fun v1 => (
 bdO (cC n v1 tip) fun v3 => (
 some (v3)
 )
 )

def cA (n : Nat) (x' : aj) (y : aj) : Option (aj) :=
 bdO (bI n x') fun v1 => (
 bdO (bI n y) fun v3 => (
 bdO (cJ n v1.Num v3.Num) fun v5 => (
 bdO (cJ n v1.Den v3.Den) fun v7 => (
 bdO (dj n v5 v7) fun v9 => (
 some (v9)
 )
 )
 )
 )
 )

def lN (n : Nat) (x' : aj) (y : aj) : Option (aj × Int) :=
 bdO (bI n x') fun v1 => (
 bdO (bI n y) fun v3 => (
 bdO (cU n v3.Num) fun v5 => (
 cdO ((v5 : Int) == 0) (
 some ((aj.mk (ae.mk false []) (ae.mk false []), 14))
 ) (
 bdO (cJ n v1.Num v3.Den) fun v8 => (
 bdO (cJ n v1.Den v3.Num) fun v10 => (
 bdO (dj n v8 v10) fun v12 => (
 some ((v12, 0))
 )
 )
 )
 )
 )
 )
 )

def ns (n : Nat) (a : aj) (b : aj) (c : aj) : Option (aj) :=
 bdO (cA n a a) fun v1 => (
 bdO (cC n a b) fun v3 => (
 bdO (cC n a c) fun v5 => (
 bdO (cA n v3 v5) fun v7 => (
 bdO (lN n v1 v7) fun v9 => (
 some (v9.1)
 )
 )
 )
 )
 )

def jZ (n : Nat) (t : A3 Int) (p : Int) (p' : Int) (p'' : Int) (CG : Int) (xT : Int) (kA : List Int) (oG : Int) (nO : Bool) (jd : List Int) (iO : Bool) (mV : List Int) : Option (Bool × List Int × Bool × List Int) :=
 bdO (α := Bool × List Int × Bool × List Int × Int) (
 gdO (inR t.e0 kA.length) (
 bdO (fY n (G1 ((G1 (2 * (gt kA t.e0))) - oG)) 2) fun v285 => (
 bdO (bE n v285.1) fun v287 => (
 cdO (decide (v287 > 0)) (
 some ((v285.1.Num.Negative, v285.1.Num.Groups, v285.1.Den.Negative, v285.1.Den.Groups, 1))
 ) (
 some ((v285.1.Num.Negative, v285.1.Num.Groups, v285.1.Den.Negative, v285.1.Den.Groups, 0))
 )
 )
 )
 )
 ) fun o290 => (
 match o290 with
 | (h_279, h_280, h_281, h_282, u_283) => (
 bdO (α := Bool × List Int × Bool × List Int × Int) (
 gdO (inR t.e1 kA.length) (
 bdO (fY n (G1 ((G1 (2 * (gt kA t.e1))) - oG)) 2) fun v299 => (
 bdO (bE n v299.1) fun v301 => (
 cdO (decide (v301 > 0)) (
 some ((v299.1.Num.Negative, v299.1.Num.Groups, v299.1.Den.Negative, v299.1.Den.Groups, G1 (u_283 + 1)))
 ) (
 some ((v299.1.Num.Negative, v299.1.Num.Groups, v299.1.Den.Negative, v299.1.Den.Groups, u_283))
 )
 )
 )
 )
 ) fun o304 => (
 match o304 with
 | (h_293, h_294, h_295, h_296, u_297) => (
 bdO (α := Bool × List Int × Bool × List Int × Int) (
 gdO (inR t.e2 kA.length) (
 bdO (fY n (G1 ((G1 (2 * (gt kA t.e2))) - oG)) 2) fun v313 => (
 bdO (bE n v313.1) fun v315 => (
 cdO (decide (v315 > 0)) (
 some ((v313.1.Num.Negative, v313.1.Num.Groups, v313.1.Den.Negative, v313.1.Den.Groups, G1 (u_297 + 1)))
 ) (
 some ((v313.1.Num.Negative, v313.1.Num.Groups, v313.1.Den.Negative, v313.1.Den.Groups, u_297))
 )
 )
 )
 )
 ) fun o318 => (
 match o318 with
 | (h_307, h_308, h_309, h_310, u_311) => (
 cdO ((u_311 : Int) == 0) (
 some ((nO, jd, iO, mV))
 ) (
 cdO ((u_311 : Int) == 3) (
 bdO (bJ n 0) fun v346 => (
 bdO (jw n (aj.mk (ae.mk h_279 h_280) (ae.mk h_281 h_282)) (aj.mk (ae.mk h_293 h_294) (ae.mk h_295 h_296)) (aj.mk (ae.mk h_307 h_308) (ae.mk h_309 h_310)) v346) fun v348 => (
 bdO (eL n (aj.mk (ae.mk nO jd) (ae.mk iO mV)) v348) fun v350 => (
 some ((v350.Num.Negative, v350.Num.Groups, v350.Den.Negative, v350.Den.Groups))
 )
 )
 )
 ) (
 bdO (aN (α := Bool × List Int × Bool × List Int × Bool × List Int × Bool × List Int × Bool × List Int × Bool × List Int) (β := Bool × List Int × Bool × List Int × Bool × List Int × Bool × List Int × Bool × List Int × Bool × List Int) n (fun again443 (h_406, h_407, h_408, h_409, h_410, h_411, h_412, h_413, h_414, h_415, h_416, h_417) => (
 bdO (α := Sum (Unit) (Unit)) (
 bdO (bE n (aj.mk (ae.mk h_406 h_407) (ae.mk h_408 h_409))) fun v446 => (
 cdO ((decide (v446 > 0)) != ((u_311 : Int) == 1)) (
 some (Sum.inr (()))
 ) (
 bdO (bE n (aj.mk (ae.mk h_410 h_411) (ae.mk h_412 h_413))) fun v449 => (
 bdO (bE n (aj.mk (ae.mk h_414 h_415) (ae.mk h_416 h_417))) fun v451 => (
 cdO ((decide (v449 > 0)) != (decide (v451 > 0))) (
 some (Sum.inr (()))
 ) (
 some (Sum.inl ())
 )
 )
 )
 )
 )
 ) fun o454 => (
 match o454 with
 | .inl _ => (
 some ((h_406, h_407, h_408, h_409, h_410, h_411, h_412, h_413, h_414, h_415, h_416, h_417))
 )
 | .inr (_) => (
 again443 (h_410, h_411, h_412, h_413, h_414, h_415, h_416, h_417, h_406, h_407, h_408, h_409)
 ))
 )) (h_279, h_280, h_281, h_282, h_293, h_294, h_295, h_296, h_307, h_308, h_309, h_310)) fun o457 => (
 match o457 with
 | (h_431, h_432, h_433, h_434, h_435, h_436, h_437, h_438, h_439, h_440, h_441, h_442) => (
 bdO (ns n (aj.mk (ae.mk h_431 h_432) (ae.mk h_433 h_434)) (aj.mk (ae.mk h_435 h_436) (ae.mk h_437 h_438)) (aj.mk (ae.mk h_439 h_440) (ae.mk h_441 h_442))) fun v460 => (
 cdO ((u_311 : Int) == 2) (
 bdO (jw n (aj.mk (ae.mk h_431 h_432) (ae.mk h_433 h_434)) (aj.mk (ae.mk h_435 h_436) (ae.mk h_437 h_438)) (aj.mk (ae.mk h_439 h_440) (ae.mk h_441 h_442)) v460) fun v463 => (
 bdO (eL n (aj.mk (ae.mk nO jd) (ae.mk iO mV)) v463) fun v465 => (
 some ((v465.Num.Negative, v465.Num.Groups, v465.Den.Negative, v465.Den.Groups))
 )
 )
 ) (
 bdO (eL n (aj.mk (ae.mk nO jd) (ae.mk iO mV)) v460) fun v467 => (
 some ((v467.Num.Negative, v467.Num.Groups, v467.Den.Negative, v467.Den.Groups))
 )
 )
 )
 ))
 )
 )
 ))
 ))
 ))

def cM (n : Nat) (g : al) (c : Int) (c' : Int) (c'' : Int) (x6 : Int) (tU : Int) (pI : List Int) (mQ : Int) (uD : Bool) (sY : List Int) (zT : Bool) (yb : List Int) : Option (Bool × List Int × Bool × List Int) :=
 bdO (aN (α := Bool × List Int × Bool × List Int × Int) (β := Bool × List Int × Bool × List Int) n (fun again318 (c_212, c_213, c_214, c_215, x_216) => (
 cdO (decide (x_216 < (G1 (g.Height - 1)))) (
 bdO (aN (α := Bool × List Int × Bool × List Int × Int) (β := Bool × List Int × Bool × List Int) n (fun again371 (c_321, c_322, c_323, c_324, x_325) => (
 cdO (decide (x_325 < (G1 (g.Width - 1)))) (
 bdO (some (G1 ((G1 (x_216 * g.Width)) + x_325))) fun w374 => (
 bdO (some [A3.mk w374 (G1 (w374 + 1)) (G1 ((G1 (w374 + g.Width)) + 1)), A3.mk w374 (G1 ((G1 (w374 + g.Width)) + 1)) (G1 (w374 + g.Width))]) fun w376 => (
 bdO (aN (α := Bool × List Int × Bool × List Int × Int) (β := Bool × List Int × Bool × List Int) n (fun again398 (c_378, c_379, c_380, c_381, x_382) => (
 cdO (decide (x_382 < 2)) (
 gdO (inR x_382 w376.length) (
 gdO (inR (gt w376 x_382).e0 g.Z.length) (
 cdO (((gt g.Z (gt w376 x_382).e0) : Int) != (-2147483648)) (
 gdO (inR (gt w376 x_382).e1 g.Z.length) (
 cdO (((gt g.Z (gt w376 x_382).e1) : Int) != (-2147483648)) (
 gdO (inR (gt w376 x_382).e2 g.Z.length) (
 cdO (((gt g.Z (gt w376 x_382).e2) : Int) != (-2147483648)) (
 bdO (jZ n (gt w376 x_382) c c' c'' x6 tU pI mQ c_378 c_379 c_380 c_381) fun v408 => (
 again398 (v408.1, v408.2.1, v408.2.2.1, v408.2.2.2, G1 (x_382 + 1))
 )
 ) (
 again398 (c_378, c_379, c_380, c_381, G1 (x_382 + 1))
 )
 )
 ) (
 again398 (c_378, c_379, c_380, c_381, G1 (x_382 + 1))
 )
 )
 ) (
 again398 (c_378, c_379, c_380, c_381, G1 (x_382 + 1))
 )
 )
 )
 ) (
 some ((c_378, c_379, c_380, c_381))
 )
 )) (c_321, c_322, c_323, c_324, 0)) fun o410 => (
 match o410 with
 | (c_394, c_395, c_396, c_397) => (
 again371 (c_394, c_395, c_396, c_397, G1 (x_325 + 1))
 ))
 )
 )
 ) (
 some ((c_321, c_322, c_323, c_324))
 )
 )) (c_212, c_213, c_214, c_215, 0)) fun o413 => (
 match o413 with
 | (c_367, c_368, c_369, c_370) => (
 again318 (c_367, c_368, c_369, c_370, G1 (x_216 + 1))
 ))
 ) (
 some ((c_212, c_213, c_214, c_215))
 )
 )) (uD, sY, zT, yb, 0)) fun o416 => (
 match o416 with
 | (c_314, c_315, c_316, c_317) => (
 some ((c_314, c_315, c_316, c_317))
 ))

def bZ (n : Nat) (g : al) (level : Int) : Option (aj) :=
 bdO (bJ n 0) fun v1 => (
 bdO (cM n g g.X0 g.Y0 g.Step g.Width g.Height g.Z level v1.Num.Negative v1.Num.Groups v1.Den.Negative v1.Den.Groups) fun v3 => (
 bdO (fY n (G1 (g.Step * g.Step)) 2) fun v5 => (
 bdO (cA n (aj.mk (ae.mk v3.1 v3.2.1) (ae.mk v3.2.2.1 v3.2.2.2)) v5.1) fun v7 => (
 some (v7)
 )
 )
 )
 )

def nf (n : Nat) (g : al) (level : Int) : Option (aj × Int) :=
 bdO (dh n g level) fun v1 => (
 cdO ((v1 : Int) != 0) (
 some ((aj.mk (ae.mk false []) (ae.mk false []), v1))
 ) (
 bdO (bZ n g level) fun v4 => (
 some ((v4, 0))
 )
 )
 )

def fX (n : Nat) (s : List Int) (v : Int) : Option (Int) :=
 bdO (aN (α := Int) (β := Sum (Unit) (Int)) n (fun again5 x_1 => (
 cdO (decide (x_1 < (s.length : Int))) (
 gdO (inR x_1 s.length) (
 cdO ((v : Int) == (gt s x_1)) (
 some (Sum.inr (x_1))
 ) (
 again5 (G1 (x_1 + 1))
 )
 )
 ) (
 some (Sum.inl ())
 )
 )) 0) fun o9 => (
 match o9 with
 | .inl _ => (
 some ((-1))
 )
 | .inr (r0) => (
 some r0
 ))

def bz (n : Nat) (s : List Int) (v : Int) : Option (Bool) :=
 bdO (fX n s v) fun v1 => (
 some (decide (v1 >= 0))
 )

def eF (n : Nat) (t : A3 Int) (p : Bool) (p' : Int) (p'' : Int) : Option (Bool) :=
 cdO p (
 some (true)
 ) (
 bdO (bz n [t.e0, t.e1, t.e2] p') fun v9 => (
 cdO v9 (
 bdO (bz n [t.e0, t.e1, t.e2] p'') fun v12 => (
 some (v12)
 )
 ) (
 some (false)
 )
 )
 )

def b6 (n : Nat) (g : al) (c : Bool) (c' : Int) (c'' : Int) : Option (Bool) :=
 bdO (aN (α := Bool × Int) (β := Bool) n (fun again249 (c_167, x_168) => (
 cdO (decide (x_168 < (G1 (g.Height - 1)))) (
 bdO (aN (α := Bool × Int) (β := Bool) n (fun again290 (c_252, x_253) => (
 cdO (decide (x_253 < (G1 (g.Width - 1)))) (
 bdO (some (G1 ((G1 (x_168 * g.Width)) + x_253))) fun w293 => (
 bdO (some [A3.mk w293 (G1 (w293 + 1)) (G1 ((G1 (w293 + g.Width)) + 1)), A3.mk w293 (G1 ((G1 (w293 + g.Width)) + 1)) (G1 (w293 + g.Width))]) fun w295 => (
 bdO (aN (α := Bool × Int) (β := Bool) n (fun again311 (c_297, x_298) => (
 cdO (decide (x_298 < 2)) (
 gdO (inR x_298 w295.length) (
 gdO (inR (gt w295 x_298).e0 g.Z.length) (
 cdO (((gt g.Z (gt w295 x_298).e0) : Int) != (-2147483648)) (
 gdO (inR (gt w295 x_298).e1 g.Z.length) (
 cdO (((gt g.Z (gt w295 x_298).e1) : Int) != (-2147483648)) (
 gdO (inR (gt w295 x_298).e2 g.Z.length) (
 cdO (((gt g.Z (gt w295 x_298).e2) : Int) != (-2147483648)) (
 bdO (eF n (gt w295 x_298) c_297 c' c'') fun v321 => (
 again311 (v321, G1 (x_298 + 1))
 )
 ) (
 again311 (c_297, G1 (x_298 + 1))
 )
 )
 ) (
 again311 (c_297, G1 (x_298 + 1))
 )
 )
 ) (
 again311 (c_297, G1 (x_298 + 1))
 )
 )
 )
 ) (
 some (c_297)
 )
 )) (c_252, 0)) fun c_310 => (
 again290 (c_310, G1 (x_253 + 1))
 )
 )
 )
 ) (
 some (c_252)
 )
 )) (c_167, 0)) fun c_289 => (
 again249 (c_289, G1 (x_168 + 1))
 )
 ) (
 some (c_167)
 )
 )) (c, 0)) fun c_248 => (
 some (c_248)
 )

def iZ (n : Nat) (g : al) (a : Int) (b : Int) : Option (Bool) :=
 cdO (decide (a < 0)) (
 some (false)
 ) (
 cdO (decide (a >= b)) (
 some (false)
 ) (
 cdO (decide (b >= (g.Z.length : Int))) (
 some (false)
 ) (
 bdO (b6 n g false a b) fun v4 => (
 some (v4)
 )
 )
 )
 )

def ez (n : Nat) (x' : aj) (y : aj) : Option (Int) :=
 bdO (bI n x') fun v1 => (
 bdO (bI n y) fun v3 => (
 bdO (cJ n v1.Num v3.Den) fun v5 => (
 bdO (cJ n v3.Num v1.Den) fun v7 => (
 bdO (fR n v5 v7) fun v9 => (
 some (v9)
 )
 )
 )
 )
 )

def cR (n : Nat) (a : Int) (b : Int) (p : Int) (p' : Int) (p'' : Bool) (CG : List Int) (xT : Bool) (kA : List Int) : Option (aj) :=
 bdO (bJ n a) fun v1 => (
 bdO (bJ n (G1 (b - a))) fun v3 => (
 bdO (cA n (aj.mk (ae.mk p'' CG) (ae.mk xT kA)) v3) fun v5 => (
 bdO (eL n v1 v5) fun v7 => (
 some (v7)
 )
 )
 )
 )

def cS (n : Nat) (g : al) (c : ak) : Option (aw × Int) :=
 bdO (iZ n g c.A c.B) fun v1 => (
 cdO (!v1) (
 some ((aw.mk (aj.mk (ae.mk false []) (ae.mk false [])) (aj.mk (ae.mk false []) (ae.mk false [])), 6))
 ) (
 bdO (cH n c.At) fun v5 => (
 cdO (!v5) (
 some ((aw.mk (aj.mk (ae.mk false []) (ae.mk false [])) (aj.mk (ae.mk false []) (ae.mk false [])), 1))
 ) (
 bdO (α := Bool) (
 bdO (bE n c.At) fun v12 => (
 cdO (decide (v12 < 0)) (
 some (true)
 ) (
 bdO (bJ n 1) fun v15 => (
 bdO (ez n c.At v15) fun v17 => (
 some (decide (v17 > 0))
 )
 )
 )
 )
 ) fun x_11 => (
 cdO x_11 (
 some ((aw.mk (aj.mk (ae.mk false []) (ae.mk false [])) (aj.mk (ae.mk false []) (ae.mk false [])), 2))
 ) (
 gdO (!decide (g.Width = 0)) (
 bdO (cR n (G1 (g.X0 + (G1 ((c.A.tmod g.Width) * g.Step)))) (G1 (g.X0 + (G1 ((c.B.tmod g.Width) * g.Step)))) c.A c.B c.At.Num.Negative c.At.Num.Groups c.At.Den.Negative c.At.Den.Groups) fun v25 => (
 bdO (cR n (G1 (g.Y0 + (G1 ((G1 (c.A.tdiv g.Width)) * g.Step)))) (G1 (g.Y0 + (G1 ((G1 (c.B.tdiv g.Width)) * g.Step)))) c.A c.B c.At.Num.Negative c.At.Num.Groups c.At.Den.Negative c.At.Den.Groups) fun v27 => (
 some ((aw.mk v25 v27, 0))
 )
 )
 )
 )
 )
 )
 )
 )
 )

def gq (n : Nat) (g : al) (c : ah) : Option (List aw × Int) :=
 bdO (aN (α := List aw × Int) (β := Sum (List aw) (List aw × Int)) n (fun again12 (o_1, x_2) => (
 cdO (decide (x_2 < (c.Points.length : Int))) (
 gdO (inR x_2 c.Points.length) (
 bdO (cS n g (gt c.Points x_2)) fun v16 => (
 cdO ((v16.2 : Int) != 0) (
 some (Sum.inr (([], v16.2)))
 ) (
 gdO (decide ((o_1.length + 1) * 128 <= 140737488355328)) (
 gdO (decide (o_1.length + 1 <= 4611686018427387904)) (
 again12 (o_1 ++ [v16.1], G1 (x_2 + 1))
 )
 )
 )
 )
 )
 ) (
 some (Sum.inl o_1)
 )
 )) ([], 0)) fun o21 => (
 match o21 with
 | .inl o_11 => (
 some ((o_11, 0))
 )
 | .inr (r0) => (
 some r0
 ))

def fQ (n : Nat) (polygon : List aw) (o : aw) : Option (Int × Bool) :=
 bdO (aN (α := Int × Int) (β := Sum (Int) (Int × Bool)) n (fun again52 (n_1, x_2) => (
 cdO (decide (x_2 < (polygon.length : Int))) (
 gdO (inR x_2 polygon.length) (
 gdO (!decide ((polygon.length : Int) = 0)) (
 gdO (inR ((G1 (x_2 + 1)).tmod (polygon.length : Int)) polygon.length) (
 bdO (cC n (gt polygon x_2).X o.X) fun v58 => (
 bdO (cC n (gt polygon x_2).Y o.Y) fun v60 => (
 bdO (cC n (gt polygon ((G1 (x_2 + 1)).tmod (polygon.length : Int))).X o.X) fun v62 => (
 bdO (cC n (gt polygon ((G1 (x_2 + 1)).tmod (polygon.length : Int))).Y o.Y) fun v64 => (
 bdO (cA n v58 v64) fun v66 => (
 bdO (cA n v60 v62) fun v68 => (
 bdO (cC n v66 v68) fun v70 => (
 bdO (bE n v70) fun v72 => (
 bdO (α := Sum (Unit) (Int × Bool)) (
 cdO ((v72 : Int) == 0) (
 bdO (cA n v58 v62) fun v75 => (
 bdO (cA n v60 v64) fun v77 => (
 bdO (eL n v75 v77) fun v79 => (
 bdO (bE n v79) fun v81 => (
 cdO (decide (v81 <= 0)) (
 some (Sum.inr ((0, true)))
 ) (
 some (Sum.inl ())
 )
 )
 )
 )
 )
 ) (
 some (Sum.inl ())
 )
 ) fun o84 => (
 match o84 with
 | .inl _ => (
 bdO (bE n v60) fun v87 => (
 bdO (bE n v64) fun v89 => (
 bdO (α := Bool) (
 cdO (decide (v87 <= 0)) (
 cdO (!(decide (v89 <= 0))) (
 some (decide (v72 > 0))
 ) (
 some (false)
 )
 ) (
 some (false)
 )
 ) fun x_91 => (
 cdO x_91 (
 again52 (G1 (n_1 + 1), G1 (x_2 + 1))
 ) (
 cdO (!(decide (v87 <= 0))) (
 cdO (decide (v89 <= 0)) (
 cdO (decide (v72 < 0)) (
 again52 (G1 (n_1 - 1), G1 (x_2 + 1))
 ) (
 again52 (n_1, G1 (x_2 + 1))
 )
 ) (
 again52 (n_1, G1 (x_2 + 1))
 )
 ) (
 again52 (n_1, G1 (x_2 + 1))
 )
 )
 )
 )
 )
 )
 | .inr (r0) => (
 some (Sum.inr (r0))
 ))
 )
 )
 )
 )
 )
 )
 )
 )
 )
 )
 )
 ) (
 some (Sum.inl n_1)
 )
 )) (0, 0)) fun o101 => (
 match o101 with
 | .inl n_51 => (
 some ((n_51, false))
 )
 | .inr (r0) => (
 some r0
 ))

def ik (n : Nat) (g : al) (l : ah) (i : Int) (j : Int) : Option (Int × Int) :=
 bdO (ie n g) fun v1 => (
 cdO ((v1 : Int) != 0) (
 some ((0, v1))
 ) (
 bdO (α := Bool) (
 cdO (decide (i < 0)) (
 some (true)
 ) (
 cdO (decide (i >= g.Width)) (
 some (true)
 ) (
 cdO (decide (j < 0)) (
 some (true)
 ) (
 some (decide (j >= g.Height))
 )
 )
 )
 ) fun x_5 => (
 cdO x_5 (
 some ((0, 2))
 ) (
 cdO (!l.Closed) (
 some ((0, 11))
 ) (
 bdO (gq n g l) fun v16 => (
 cdO ((v16.2 : Int) != 0) (
 some ((0, v16.2))
 ) (
 bdO (bJ n (G1 (g.X0 + (G1 (i * g.Step))))) fun v20 => (
 bdO (bJ n (G1 (g.Y0 + (G1 (j * g.Step))))) fun v22 => (
 bdO (fQ n v16.1 (aw.mk v20 v22)) fun v24 => (
 cdO v24.2 (
 some ((0, 13))
 ) (
 cdO (((v16.1.length : Int) : Int) == 0) (
 some ((0, 13))
 ) (
 some ((v24.1, 0))
 )
 )
 )
 )
 )
 )
 )
 )
 )
 )
 )
 )

def aT (n : Nat) (negative : Bool) (l : List Int) : Option (ae) :=
 bdO (aN (α := Int) (β := Int) n (fun again6 n_1 => (
 cdO (decide (n_1 > 0)) (
 gdO (inR (G1 (n_1 - 1)) l.length) (
 cdO (((gt l (G1 (n_1 - 1))) : Int) == 0) (
 again6 (G1 (n_1 - 1))
 ) (
 some (n_1)
 )
 )
 ) (
 some (n_1)
 )
 )) (l.length : Int)) fun n_5 => (
 cdO negative (
 gdO (inS 0 n_5 l.length) (
 gdO (decide ((0 + ((l.drop (0 : Int).toNat).take (n_5.toNat - (0 : Int).toNat)).length) * 4 <= 140737488355328)) (
 gdO (decide (0 + ((l.drop (0 : Int).toNat).take (n_5.toNat - (0 : Int).toNat)).length <= 4611686018427387904)) (
 some (ae.mk (decide (n_5 > 0)) ((l.drop (0 : Int).toNat).take (n_5.toNat - (0 : Int).toNat)))
 )
 )
 )
 ) (
 gdO (inS 0 n_5 l.length) (
 gdO (decide ((0 + ((l.drop (0 : Int).toNat).take (n_5.toNat - (0 : Int).toNat)).length) * 4 <= 140737488355328)) (
 gdO (decide (0 + ((l.drop (0 : Int).toNat).take (n_5.toNat - (0 : Int).toNat)).length <= 4611686018427387904)) (
 some (ae.mk false ((l.drop (0 : Int).toNat).take (n_5.toNat - (0 : Int).toNat)))
 )
 )
 )
 )
 )

def jb (n : Nat) (n' : Int) : Option (ae) :=
 cdO (decide (n' < 0)) (
 bdO (aN (α := Int × List Int) (β := List Int) n (fun again8 (u_2, l_3) => (
 cdO (decide (u_2 > 0)) (
 gdO (decide ((l_3.length + 1) * 4 <= 140737488355328)) (
 gdO (decide (l_3.length + 1 <= 4611686018427387904)) (
 again8 (aa .u64 (u_2.tdiv 1000000000), l_3 ++ [aa .u32 (u_2.tmod 1000000000)])
 )
 )
 ) (
 some (l_3)
 )
 )) (aa .u64 ((aa .u64 (G1 (0 - (G1 (n' + 1))))) + 1), [])) fun l_7 => (
 bdO (aT n true l_7) fun v15 => (
 some (v15)
 )
 )
 ) (
 bdO (aN (α := Int × List Int) (β := List Int) n (fun again23 (u_17, l_18) => (
 cdO (decide (u_17 > 0)) (
 gdO (decide ((l_18.length + 1) * 4 <= 140737488355328)) (
 gdO (decide (l_18.length + 1 <= 4611686018427387904)) (
 again23 (aa .u64 (u_17.tdiv 1000000000), l_18 ++ [aa .u32 (u_17.tmod 1000000000)])
 )
 )
 ) (
 some (l_18)
 )
 )) (aa .u64 n', [])) fun l_22 => (
 bdO (aT n false l_22) fun v30 => (
 some (v30)
 )
 )
 )

def ch (n : Nat) (n' : Int) : Option (ae) :=
 bdO (jb n n') fun v1 => (
 some (v1)
 )

def cY (n : Nat) (x' : ae) : Option (Bool) :=
 bdO (aN (α := Int) (β := Sum (Unit) (Bool)) n (fun again5 i_1 => (
 cdO (decide (i_1 < (x'.Groups.length : Int))) (
 gdO (inR i_1 x'.Groups.length) (
 cdO (decide ((gt x'.Groups i_1) >= 1000000000)) (
 some (Sum.inr (false))
 ) (
 again5 (G1 (i_1 + 1))
 )
 )
 ) (
 some (Sum.inl ())
 )
 )) 0) fun o9 => (
 match o9 with
 | .inl _ => (
 cdO (((x'.Groups.length : Int) : Int) == 0) (
 some (!x'.Negative)
 ) (
 gdO (inR (G1 ((x'.Groups.length : Int) - 1)) x'.Groups.length) (
 some (((gt x'.Groups (G1 ((x'.Groups.length : Int) - 1))) : Int) != 0)
 )
 )
 )
 | .inr (r0) => (
 some r0
 ))

def a8 (n : Nat) (x' : ae) : Option (ae) :=
 bdO (cY n x') fun v1 => (
 cdO (!v1) (
 some (ae.mk false [])
 ) (
 gdO (decide ((0 + x'.Groups.length) * 4 <= 140737488355328)) (
 gdO (decide (0 + x'.Groups.length <= 4611686018427387904)) (
 some (x')
 )
 )
 )
 )

def di (n : Nat) (x' : ae) : Option (Int) :=
 bdO (a8 n x') fun v1 => (
 cdO (((v1.Groups.length : Int) : Int) == 0) (
 some (0)
 ) (
 cdO v1.Negative (
 some ((-1))
 ) (
 some (1)
 )
 )
 )

def gk (n : Nat) (a : List Int) (d : Int) : Option (List Int × Int) :=
 gdO (decide (0 <= (a.length : Int))) (
 gdO (decide ((4 : Int) * (a.length : Int) <= 281474976710656)) (
 gdO (decide ((a.length : Int) <= 9223372036854775807)) (
 bdO (aN (α := List Int × Int × Int) (β := List Int × Int) n (fun again13 (q_4, r_5, i_6) => (
 cdO (decide (i_6 >= 0)) (
 gdO (inR i_6 a.length) (
 gdO (!decide (d = 0)) (
 gdO (inR i_6 q_4.length) (
 again13 (q_4.set i_6.toNat (aa .u32 (aa .u64 ((aa .u64 ((aa .u64 (r_5 * 1000000000)) + (aa .u64 (gt a i_6)))).tdiv d))), (aa .u64 ((aa .u64 (r_5 * 1000000000)) + (aa .u64 (gt a i_6)))).tmod d, G1 (i_6 - 1))
 )
 )
 )
 ) (
 some ((q_4, r_5))
 )
 )) (List.replicate (a.length : Int).toNat ((0 : Int) : Int), 0, G1 ((a.length : Int) - 1))) fun o18 => (
 match o18 with
 | (q_11, r_12) => (
 bdO (aT n false q_11) fun v21 => (
 some ((v21.Groups, r_12))
 )
 ))
 )
 )
 )

def fz (n : Nat) (a : List Int) (b : List Int) : Option (Int) :=
 cdO (((a.length : Int) : Int) != (b.length : Int)) (
 cdO (decide ((a.length : Int) < (b.length : Int))) (
 some ((-1))
 ) (
 some (1)
 )
 ) (
 bdO (aN (α := Int) (β := Sum (Unit) (Int)) n (fun again9 i_3 => (
 cdO (decide (i_3 >= 0)) (
 gdO (inR i_3 a.length) (
 gdO (inR i_3 b.length) (
 cdO (decide ((gt a i_3) < (gt b i_3))) (
 some (Sum.inr ((-1)))
 ) (
 cdO (decide ((gt a i_3) > (gt b i_3))) (
 some (Sum.inr (1))
 ) (
 again9 (G1 (i_3 - 1))
 )
 )
 )
 )
 ) (
 some (Sum.inl ())
 )
 )) (G1 ((a.length : Int) - 1))) fun o15 => (
 match o15 with
 | .inl _ => (
 some (0)
 )
 | .inr (r0) => (
 some r0
 ))
 )

def cK (n : Nat) (a : List Int) (d : Int) : Option (List Int) :=
 bdO (aN (α := List Int × Int × Int) (β := List Int × Int) n (fun again10 (o_1, c_2, i_3) => (
 cdO (decide (i_3 < (a.length : Int))) (
 gdO (inR i_3 a.length) (
 gdO (decide ((o_1.length + 1) * 4 <= 140737488355328)) (
 gdO (decide (o_1.length + 1 <= 4611686018427387904)) (
 again10 (o_1 ++ [aa .u32 ((aa .u64 ((aa .u64 ((aa .u64 (gt a i_3)) * d)) + c_2)).tmod 1000000000)], aa .u64 ((aa .u64 ((aa .u64 ((aa .u64 (gt a i_3)) * d)) + c_2)).tdiv 1000000000), G1 (i_3 + 1))
 )
 )
 )
 ) (
 some ((o_1, c_2))
 )
 )) ([], 0, 0)) fun o15 => (
 match o15 with
 | (o_8, c_9) => (
 gdO (decide ((o_8.length + 1) * 4 <= 140737488355328)) (
 gdO (decide (o_8.length + 1 <= 4611686018427387904)) (
 bdO (aT n false (o_8 ++ [aa .u32 c_9])) fun v20 => (
 some (v20.Groups)
 )
 )
 )
 ))

def iz (n : Nat) (a : List Int) (d : Int) : Option (List Int) :=
 gdO (decide ((1 + a.length) * 4 <= 140737488355328)) (
 gdO (decide (1 + a.length <= 4611686018427387904)) (
 bdO (aT n false ([d] ++ a)) fun v3 => (
 some (v3.Groups)
 )
 )
 )

def ba (n : Nat) (l : List Int) (i : Int) : Option (Int) :=
 cdO (decide (i < (l.length : Int))) (
 gdO (inR i l.length) (
 some (aa .u64 (gt l i))
 )
 ) (
 some (0)
 )

def dR (n : Nat) (a : List Int) (b : List Int) : Option (List Int) :=
 bdO (aN (α := List Int × Int × Int) (β := List Int) n (fun again12 (o_1, b_2, i_3) => (
 cdO (decide (i_3 < (a.length : Int))) (
 bdO (ba n a i_3) fun v14 => (
 bdO (ba n b i_3) fun v16 => (
 gdO (decide ((o_1.length + 1) * 4 <= 140737488355328)) (
 gdO (decide (o_1.length + 1 <= 4611686018427387904)) (
 again12 (o_1 ++ [aa .u32 ((aa .u64 ((aa .u64 ((aa .u64 (1000000000 + v14)) - v16)) - b_2)).tmod 1000000000)], aa .u64 (1 - (aa .u64 ((aa .u64 ((aa .u64 ((aa .u64 (1000000000 + v14)) - v16)) - b_2)).tdiv 1000000000))), G1 (i_3 + 1))
 )
 )
 )
 )
 ) (
 some (o_1)
 )
 )) ([], 0, 0)) fun o_11 => (
 bdO (aT n false o_11) fun v23 => (
 some (v23.Groups)
 )
 )

def ff (n : Nat) (a : List Int) (b : List Int) : Option (List Int × List Int) :=
 cdO (((b.length : Int) : Int) == 1) (
 gdO (inR 0 b.length) (
 bdO (gk n a (aa .u64 (gt b 0))) fun v3 => (
 bdO (aT n false [(aa .u32 v3.2)]) fun v5 => (
 some ((v3.1, v5.Groups))
 )
 )
 )
 ) (
 bdO (fz n a b) fun v7 => (
 cdO (decide (v7 < 0)) (
 some (([], a))
 ) (
 gdO (inR (G1 ((b.length : Int) - 1)) b.length) (
 gdO (!decide (aa .u64 ((aa .u64 (gt b (G1 ((b.length : Int) - 1)))) + 1) = 0)) (
 bdO (cK n a (aa .u64 ((1000000000 : Int).tdiv (aa .u64 ((aa .u64 (gt b (G1 ((b.length : Int) - 1)))) + 1))))) fun v12 => (
 bdO (cK n b (aa .u64 ((1000000000 : Int).tdiv (aa .u64 ((aa .u64 (gt b (G1 ((b.length : Int) - 1)))) + 1))))) fun v14 => (
 gdO (inS (G1 ((G1 ((v12.length : Int) - (b.length : Int))) + 1)) (v12.length : Int) v12.length) (
 bdO (aT n false ((v12.drop (G1 ((G1 ((v12.length : Int) - (b.length : Int))) + 1)).toNat).take ((v12.length : Int).toNat - (G1 ((G1 ((v12.length : Int) - (b.length : Int))) + 1)).toNat))) fun v17 => (
 gdO (decide (0 <= G1 ((G1 ((v12.length : Int) - (b.length : Int))) + 1))) (
 gdO (decide ((4 : Int) * (G1 ((G1 ((v12.length : Int) - (b.length : Int))) + 1)) <= 281474976710656)) (
 gdO (decide (G1 ((G1 ((v12.length : Int) - (b.length : Int))) + 1) <= 9223372036854775807)) (
 bdO (aN (α := List Int × List Int × Int) (β := List Int × List Int) n (fun again60 (r_22, q_23, i_24) => (
 cdO (decide (i_24 >= 0)) (
 gdO (inR i_24 v12.length) (
 bdO (iz n r_22 (gt v12 i_24)) fun v63 => (
 bdO (ba n v63 (b.length : Int)) fun v65 => (
 bdO (ba n v63 (G1 ((b.length : Int) - 1))) fun v67 => (
 gdO (inR (G1 ((b.length : Int) - 1)) v14.length) (
 gdO (!decide (aa .u64 ((aa .u64 (gt v14 (G1 ((b.length : Int) - 1)))) + 1) = 0)) (
 bdO (cK n v14 (aa .u64 ((aa .u64 ((aa .u64 (v65 * 1000000000)) + v67)).tdiv (aa .u64 ((aa .u64 (gt v14 (G1 ((b.length : Int) - 1)))) + 1))))) fun v71 => (
 bdO (dR n v63 v71) fun v73 => (
 bdO (aN (α := List Int × Int) (β := List Int × Int) n (fun again84 (r_75, g_76) => (
 bdO (fz n r_75 v14) fun v85 => (
 cdO (decide (v85 >= 0)) (
 bdO (dR n r_75 v14) fun v88 => (
 again84 (v88, aa .u64 (g_76 + 1))
 )
 ) (
 some ((r_75, g_76))
 )
 )
 )) (v73, aa .u64 ((aa .u64 ((aa .u64 (v65 * 1000000000)) + v67)).tdiv (aa .u64 ((aa .u64 (gt v14 (G1 ((b.length : Int) - 1)))) + 1))))) fun o90 => (
 match o90 with
 | (r_82, g_83) => (
 gdO (inR i_24 q_23.length) (
 again60 (r_82, q_23.set i_24.toNat (aa .u32 g_83), G1 (i_24 - 1))
 )
 ))
 )
 )
 )
 )
 )
 )
 )
 )
 ) (
 some ((r_22, q_23))
 )
 )) (v17.Groups, List.replicate (G1 ((G1 ((v12.length : Int) - (b.length : Int))) + 1)).toNat ((0 : Int) : Int), G1 ((v12.length : Int) - (b.length : Int)))) fun o94 => (
 match o94 with
 | (r_58, q_59) => (
 bdO (gk n r_58 (aa .u64 ((1000000000 : Int).tdiv (aa .u64 ((aa .u64 (gt b (G1 ((b.length : Int) - 1)))) + 1))))) fun v97 => (
 bdO (aT n false q_59) fun v99 => (
 some ((v99.Groups, v97.1))
 )
 )
 ))
 )
 )
 )
 )
 )
 )
 )
 )
 )
 )
 )
 )

def eD (n : Nat) (a : List Int) : Option (Int) :=
 bdO (ba n a 1) fun v1 => (
 bdO (ba n a 0) fun v3 => (
 some (aa .u64 ((aa .u64 (v1 * 1000000000)) + v3))
 )
 )

def iI (n : Nat) (x' : ae) (y : ae) : Option (ae) :=
 bdO (a8 n x') fun v1 => (
 bdO (a8 n y) fun v3 => (
 bdO (aN (α := List Int × List Int) (β := List Int × List Int) n (fun again16 (a_5, b_6) => (
 cdO (decide ((b_6.length : Int) > 0)) (
 cdO (decide ((a_5.length : Int) > 2)) (
 bdO (ff n a_5 b_6) fun v19 => (
 again16 (b_6, v19.2)
 )
 ) (
 cdO (decide ((b_6.length : Int) > 2)) (
 bdO (ff n a_5 b_6) fun v22 => (
 again16 (b_6, v22.2)
 )
 ) (
 some ((a_5, b_6))
 )
 )
 ) (
 some ((a_5, b_6))
 )
 )) (v1.Groups, v3.Groups)) fun o24 => (
 match o24 with
 | (a_14, b_15) => (
 cdO (((b_15.length : Int) : Int) == 0) (
 bdO (aT n false a_14) fun v28 => (
 some (v28)
 )
 ) (
 bdO (eD n a_14) fun v30 => (
 bdO (eD n b_15) fun v32 => (
 bdO (aN (α := Int × Int) (β := Int) n (fun again39 (u_34, v_35) => (
 cdO (decide (v_35 > 0)) (
 gdO (!decide (v_35 = 0)) (
 again39 (v_35, u_34.tmod v_35)
 )
 ) (
 some (u_34)
 )
 )) (v30, v32)) fun u_38 => (
 bdO (aT n false [(aa .u32 (u_38.tmod 1000000000)), (aa .u32 (aa .u64 (u_38.tdiv 1000000000)))]) fun v45 => (
 some (v45)
 )
 )
 )
 )
 )
 ))
 )
 )

def fS (n : Nat) (x' : ae) : Option (ae) :=
 bdO (a8 n x') fun v1 => (
 bdO (aT n (!v1.Negative) v1.Groups) fun v3 => (
 some (v3)
 )
 )

def jK (n : Nat) (a : List Int) (b : List Int) : Option (List Int) :=
 bdO (aN (α := List Int × Int × Int) (β := List Int × Int) n (fun again20 (o_1, c_2, i_3) => (
 cdO (decide (i_3 < (a.length : Int))) (
 bdO (ba n a i_3) fun v22 => (
 bdO (ba n b i_3) fun v24 => (
 gdO (decide ((o_1.length + 1) * 4 <= 140737488355328)) (
 gdO (decide (o_1.length + 1 <= 4611686018427387904)) (
 again20 (o_1 ++ [aa .u32 ((aa .u64 ((aa .u64 (v22 + v24)) + c_2)).tmod 1000000000)], aa .u64 ((aa .u64 ((aa .u64 (v22 + v24)) + c_2)).tdiv 1000000000), G1 (i_3 + 1))
 )
 )
 )
 )
 ) (
 cdO (decide (i_3 < (b.length : Int))) (
 bdO (ba n a i_3) fun v29 => (
 bdO (ba n b i_3) fun v31 => (
 gdO (decide ((o_1.length + 1) * 4 <= 140737488355328)) (
 gdO (decide (o_1.length + 1 <= 4611686018427387904)) (
 again20 (o_1 ++ [aa .u32 ((aa .u64 ((aa .u64 (v29 + v31)) + c_2)).tmod 1000000000)], aa .u64 ((aa .u64 ((aa .u64 (v29 + v31)) + c_2)).tdiv 1000000000), G1 (i_3 + 1))
 )
 )
 )
 )
 ) (
 some ((o_1, c_2))
 )
 )
 )) ([], 0, 0)) fun o35 => (
 match o35 with
 | (o_18, c_19) => (
 gdO (decide ((o_18.length + 1) * 4 <= 140737488355328)) (
 gdO (decide (o_18.length + 1 <= 4611686018427387904)) (
 bdO (aT n false (o_18 ++ [aa .u32 c_19])) fun v40 => (
 some (v40.Groups)
 )
 )
 )
 ))

def iH (n : Nat) (x' : ae) (y : ae) : Option (ae) :=
 bdO (a8 n x') fun v1 => (
 bdO (a8 n y) fun v3 => (
 cdO (v1.Negative == v3.Negative) (
 bdO (jK n v1.Groups v3.Groups) fun v6 => (
 bdO (aT n v1.Negative v6) fun v8 => (
 some (v8)
 )
 )
 ) (
 bdO (fz n v1.Groups v3.Groups) fun v10 => (
 cdO (decide (v10 >= 0)) (
 bdO (dR n v1.Groups v3.Groups) fun v13 => (
 bdO (aT n v1.Negative v13) fun v15 => (
 some (v15)
 )
 )
 ) (
 bdO (dR n v3.Groups v1.Groups) fun v17 => (
 bdO (aT n v3.Negative v17) fun v19 => (
 some (v19)
 )
 )
 )
 )
 )
 )
 )

def dG (n : Nat) (x' : ae) (y : ae) : Option (ae) :=
 bdO (fS n y) fun v1 => (
 bdO (iH n x' v1) fun v3 => (
 some (v3)
 )
 )

def cm (n : Nat) (x' : ae) (y : ae) : Option (ae) :=
 bdO (a8 n x') fun v1 => (
 bdO (a8 n y) fun v3 => (
 gdO (decide (0 <= G1 ((v1.Groups.length : Int) + (v3.Groups.length : Int)))) (
 gdO (decide ((4 : Int) * (G1 ((v1.Groups.length : Int) + (v3.Groups.length : Int))) <= 281474976710656)) (
 gdO (decide (G1 ((v1.Groups.length : Int) + (v3.Groups.length : Int)) <= 9223372036854775807)) (
 bdO (aN (α := List Int × Int) (β := List Int) n (fun again30 (o_8, i_9) => (
 cdO (decide (i_9 < (v1.Groups.length : Int))) (
 bdO (aN (α := List Int × Int × Int) (β := List Int × Int) n (fun again41 (o_32, c_33, j_34) => (
 cdO (decide (j_34 < (v3.Groups.length : Int))) (
 gdO (inR (G1 (i_9 + j_34)) o_32.length) (
 gdO (inR i_9 v1.Groups.length) (
 gdO (inR j_34 v3.Groups.length) (
 again41 (o_32.set (G1 (i_9 + j_34)).toNat (aa .u32 ((aa .u64 ((aa .u64 ((aa .u64 (gt o_32 (G1 (i_9 + j_34)))) + (aa .u64 ((aa .u64 (gt v1.Groups i_9)) * (aa .u64 (gt v3.Groups j_34)))))) + c_33)).tmod 1000000000)), aa .u64 ((aa .u64 ((aa .u64 ((aa .u64 (gt o_32 (G1 (i_9 + j_34)))) + (aa .u64 ((aa .u64 (gt v1.Groups i_9)) * (aa .u64 (gt v3.Groups j_34)))))) + c_33)).tdiv 1000000000), G1 (j_34 + 1))
 )
 )
 )
 ) (
 some ((o_32, c_33))
 )
 )) (o_8, 0, 0)) fun o46 => (
 match o46 with
 | (o_39, c_40) => (
 gdO (inR (G1 (i_9 + (v3.Groups.length : Int))) o_39.length) (
 again30 (o_39.set (G1 (i_9 + (v3.Groups.length : Int))).toNat (aa .u32 c_40), G1 (i_9 + 1))
 )
 ))
 ) (
 some (o_8)
 )
 )) (List.replicate (G1 ((v1.Groups.length : Int) + (v3.Groups.length : Int))).toNat ((0 : Int) : Int), 0)) fun o_29 => (
 bdO (aT n (v1.Negative != v3.Negative) o_29) fun v53 => (
 some (v53)
 )
 )
 )
 )
 )
 )
 )

def dy (n : Nat) (x' : ae) (y : ae) : Option (ae × ae × Int) :=
 bdO (a8 n x') fun v1 => (
 bdO (a8 n y) fun v3 => (
 cdO (((v3.Groups.length : Int) : Int) == 0) (
 some ((ae.mk false [], ae.mk false [], 14))
 ) (
 bdO (ff n v1.Groups v3.Groups) fun v6 => (
 bdO (aT n (v1.Negative != v3.Negative) v6.1) fun v8 => (
 cdO (v1.Negative != v3.Negative) (
 cdO (decide ((v6.2.length : Int) > 0)) (
 bdO (jb n 1) fun v12 => (
 bdO (dG n v8 v12) fun v14 => (
 bdO (cm n v14 v3) fun v16 => (
 bdO (dG n v1 v16) fun v18 => (
 some ((v14, v18, 0))
 )
 )
 )
 )
 ) (
 bdO (cm n v8 v3) fun v20 => (
 bdO (dG n v1 v20) fun v22 => (
 some ((v8, v22, 0))
 )
 )
 )
 ) (
 bdO (cm n v8 v3) fun v24 => (
 bdO (dG n v1 v24) fun v26 => (
 some ((v8, v26, 0))
 )
 )
 )
 )
 )
 )
 )
 )

def fG (n : Nat) (num : ae) (den : ae) : Option (aj) :=
 bdO (iI n num den) fun v1 => (
 bdO (di n den) fun v3 => (
 cdO (decide (v3 < 0)) (
 bdO (fS n v1) fun v6 => (
 bdO (dy n num v6) fun v8 => (
 bdO (dy n den v6) fun v10 => (
 some (aj.mk v8.1 v10.1)
 )
 )
 )
 ) (
 bdO (dy n num v1) fun v12 => (
 bdO (dy n den v1) fun v14 => (
 some (aj.mk v12.1 v14.1)
 )
 )
 )
 )
 )

def jU (n : Nat) (num : ae) (den : ae) : Option (aj × Int) :=
 bdO (di n den) fun v1 => (
 cdO ((v1 : Int) == 0) (
 some ((aj.mk (ae.mk false []) (ae.mk false []), 14))
 ) (
 bdO (fG n num den) fun v4 => (
 some ((v4, 0))
 )
 )
 )

def ky (n : Nat) (n' : Int) (d : Int) : Option (aj × Int) :=
 bdO (ch n n') fun v1 => (
 bdO (ch n d) fun v3 => (
 bdO (jU n v1 v3) fun v5 => (
 some ((v5.1, v5.2))
 )
 )
 )

def iv (n : Nat) (x' : ae) (y : ae) : Option (Int) :=
 bdO (dG n x' y) fun v1 => (
 bdO (di n v1) fun v3 => (
 some (v3)
 )
 )

def cX (n : Nat) (x' : aj) : Option (Bool) :=
 bdO (cY n x'.Num) fun v1 => (
 cdO (!v1) (
 some (false)
 ) (
 bdO (cY n x'.Den) fun v4 => (
 cdO (!v4) (
 some (false)
 ) (
 bdO (di n x'.Den) fun v7 => (
 cdO (decide (v7 <= 0)) (
 some (false)
 ) (
 bdO (iI n x'.Num x'.Den) fun v10 => (
 bdO (ch n 1) fun v12 => (
 bdO (iv n v10 v12) fun v14 => (
 some ((v14 : Int) == 0)
 )
 )
 )
 )
 )
 )
 )
 )
 )

def jl (n : Nat) (n' : Int) : Option (aj) :=
 bdO (ch n n') fun v1 => (
 bdO (ch n 1) fun v3 => (
 some (aj.mk v1 v3)
 )
 )

def dQ (n : Nat) (x' : aj) : Option (aj) :=
 bdO (cX n x') fun v1 => (
 cdO v1 (
 some (x')
 ) (
 bdO (jl n 0) fun v4 => (
 some (v4)
 )
 )
 )

def j2 (n : Nat) (x' : aj) : Option (aj) :=
 bdO (dQ n x') fun v1 => (
 bdO (fS n v1.Num) fun v3 => (
 some (aj.mk v3 v1.Den)
 )
 )

def jV (n : Nat) (x' : aj) (y : aj) : Option (aj) :=
 bdO (dQ n x') fun v1 => (
 bdO (dQ n y) fun v3 => (
 bdO (cm n v1.Num v3.Den) fun v5 => (
 bdO (cm n v3.Num v1.Den) fun v7 => (
 bdO (iH n v5 v7) fun v9 => (
 bdO (cm n v1.Den v3.Den) fun v11 => (
 bdO (fG n v9 v11) fun v13 => (
 some (v13)
 )
 )
 )
 )
 )
 )
 )

def j3 (n : Nat) (x' : aj) (y : aj) : Option (aj) :=
 bdO (j2 n y) fun v1 => (
 bdO (jV n x' v1) fun v3 => (
 some (v3)
 )
 )

def jJ (n : Nat) (x' : aj) : Option (Int) :=
 bdO (dQ n x') fun v1 => (
 bdO (di n v1.Num) fun v3 => (
 some (v3)
 )
 )

def iB (n : Nat) (x' : aj) (y : aj) : Option (Int) :=
 bdO (j3 n x' y) fun v1 => (
 bdO (jJ n v1) fun v3 => (
 some (v3)
 )
 )

def jH (n : Nat) (x' : aj) (y : aj) : Option (Bool) :=
 bdO (cX n x') fun v1 => (
 cdO v1 (
 bdO (cX n y) fun v4 => (
 cdO v4 (
 bdO (iB n x' y) fun v7 => (
 some ((v7 : Int) == 0)
 )
 ) (
 some (false)
 )
 )
 ) (
 some (false)
 )
 )

def bl (n : Nat) (n' : Int) : Option (List ak) :=
 gdO (!(decide (n' < 0))) (
 cdO (decide ((G1 (n' - 0)) > 0)) (
 gdO (decide (0 < (G1 (n' - 0)))) (
 gdO (decide ((G1 (n' - 0)) <= 4611686018427387904)) (
 gdO (decide ((G1 (n' - 0)).toNat * 80 <= 140737488355328)) (
 gdO (inS 0 0 (G1 (n' - 0)).toNat) (
 some (([] : List ak))
 )
 )
 )
 )
 ) (
 some ([])
 )
 )

def bm (n : Nat) (slices : List (List ak)) : Option (List ak) :=
 bdO (aN (α := Int × Int) (β := Int) n (fun again7 (s_1, x_2) => (
 cdO (decide (x_2 < (slices.length : Int))) (
 gdO (inR x_2 slices.length) (
 gdO (!(decide ((G1 (s_1 + ((gt slices x_2).length : Int))) < 0))) (
 again7 (G1 (s_1 + ((gt slices x_2).length : Int)), G1 (x_2 + 1))
 )
 )
 ) (
 some (s_1)
 )
 )) (0, 0)) fun s_6 => (
 bdO (bl n s_6) fun v14 => (
 bdO (aN (α := List ak × Int) (β := List ak) n (fun again23 (n_16, x_17) => (
 cdO (decide (x_17 < (slices.length : Int))) (
 gdO (inR x_17 slices.length) (
 gdO (decide ((n_16.length + (gt slices x_17).length) * 80 <= 140737488355328)) (
 gdO (decide (n_16.length + (gt slices x_17).length <= 4611686018427387904)) (
 again23 (n_16 ++ (gt slices x_17), G1 (x_17 + 1))
 )
 )
 )
 ) (
 some (n_16)
 )
 )) (v14, 0)) fun n_22 => (
 some (n_22)
 )
 )
 )

def mA (n : Nat) (c : ah) : Option (ah) :=
 cdO (!c.Closed) (
 some (c)
 ) (
 bdO (aN (α := Int × Int) (β := Int) n (fun again34 (a_24, x_25) => (
 cdO (decide (x_25 < (c.Points.length : Int))) (
 gdO (inR x_25 c.Points.length) (
 gdO (inR a_24 c.Points.length) (
 bdO (dd n (A2.mk (gt c.Points x_25).A (gt c.Points x_25).B) (A2.mk (gt c.Points a_24).A (gt c.Points a_24).B)) fun v39 => (
 cdO (decide (v39 < 0)) (
 again34 (x_25, G1 (x_25 + 1))
 ) (
 again34 (a_24, G1 (x_25 + 1))
 )
 )
 )
 )
 ) (
 some (a_24)
 )
 )) (0, 0)) fun a_33 => (
 gdO (inS a_33 (c.Points.length : Int) c.Points.length) (
 gdO (inS 0 a_33 c.Points.length) (
 bdO (bm n [((c.Points.drop a_33.toNat).take ((c.Points.length : Int).toNat - a_33.toNat)), ((c.Points.drop (0 : Int).toNat).take (a_33.toNat - (0 : Int).toNat))]) fun v47 => (
 some (ah.mk true v47)
 )
 )
 )
 )
 )

def lF (n : Nat) (a : ah) (b : ah) : Option (Int) :=
 bdO (dC n a) fun v1 => (
 bdO (dC n b) fun v3 => (
 bdO (dd n v1 v3) fun v5 => (
 some (v5)
 )
 )
 )

def aV (n : Nat) (x' : List ah) : Option (List ah) :=
 gdO (decide (x'.length < 4611686018427387904)) (
 r6 (fun x y => lF n x y) x'
 )

def mr (n : Nat) (p : ak) (q : ak) : Option (Bool) :=
 cdO ((p.A : Int) == q.A) (
 cdO ((p.B : Int) == q.B) (
 bdO (cH n p.At) fun v3 => (
 cdO v3 (
 bdO (cH n q.At) fun v6 => (
 cdO v6 (
 bdO (ez n p.At q.At) fun v9 => (
 some ((v9 : Int) == 0)
 )
 ) (
 some (false)
 )
 )
 ) (
 some (false)
 )
 )
 ) (
 some (false)
 )
 ) (
 some (false)
 )

def aL (n : Nat) (s1 : List ak) (s2 : List ak) : Option (Bool) :=
 cdO (((s1.length : Int) : Int) != (s2.length : Int)) (
 some (false)
 ) (
 bdO (aN (α := Int) (β := Sum (Unit) (Bool)) n (fun again9 x_2 => (
 cdO (decide (x_2 < (s1.length : Int))) (
 gdO (inR x_2 s1.length) (
 gdO (inR x_2 s2.length) (
 bdO (mr n (gt s1 x_2) (gt s2 x_2)) fun v13 => (
 cdO (!v13) (
 some (Sum.inr (false))
 ) (
 again9 (G1 (x_2 + 1))
 )
 )
 )
 )
 ) (
 some (Sum.inl ())
 )
 )) 0) fun o16 => (
 match o16 with
 | .inl _ => (
 some (true)
 )
 | .inr (r0) => (
 some r0
 ))
 )

def oZ (n : Nat) (a : ah) (b : ah) : Option (Bool) :=
 cdO (a.Closed == b.Closed) (
 bdO (aL n a.Points b.Points) fun v2 => (
 some (v2)
 )
 ) (
 some (false)
 )

def aO (n : Nat) (s1 : List ah) (s2 : List ah) : Option (Bool) :=
 cdO (((s1.length : Int) : Int) != (s2.length : Int)) (
 some (false)
 ) (
 bdO (aN (α := Int) (β := Sum (Unit) (Bool)) n (fun again9 x_2 => (
 cdO (decide (x_2 < (s1.length : Int))) (
 gdO (inR x_2 s1.length) (
 gdO (inR x_2 s2.length) (
 bdO (oZ n (gt s1 x_2) (gt s2 x_2)) fun v13 => (
 cdO (!v13) (
 some (Sum.inr (false))
 ) (
 again9 (G1 (x_2 + 1))
 )
 )
 )
 )
 ) (
 some (Sum.inl ())
 )
 )) 0) fun o16 => (
 match o16 with
 | .inl _ => (
 some (true)
 )
 | .inr (r0) => (
 some r0
 ))
 )

noncomputable def jr (n : Nat) (g : al) (level : Int) (l : List ah) : Option (Int) :=
 bdO (dh n g level) fun v1 => (
 cdO ((v1 : Int) != 0) (
 some (v1)
 ) (
 bdO (aN (α := List ah × Int) (β := Sum (List ah) (Int)) n (fun again16 (g_5, x_6) => (
 cdO (decide (x_6 < (l.length : Int))) (
 gdO (inR x_6 l.length) (
 cdO ((((gt l x_6).Points.length : Int) : Int) == 0) (
 some (Sum.inr (12))
 ) (
 bdO (mA n (gt l x_6)) fun v21 => (
 gdO (decide ((g_5.length + 1) * 32 <= 140737488355328)) (
 gdO (decide (g_5.length + 1 <= 4611686018427387904)) (
 again16 (g_5 ++ [v21], G1 (x_6 + 1))
 )
 )
 )
 )
 )
 ) (
 some (Sum.inl g_5)
 )
 )) ([], 0)) fun o25 => (
 match o25 with
 | .inl g_15 => (
 bdO (aV n g_15) fun v28 => (
 gdO (decide (v28.length = g_15.length)) (
 bdO (fp n g level) fun v31 => (
 bdO (aO n v28 v31) fun v33 => (
 cdO (!v33) (
 some (12)
 ) (
 some (0)
 )
 )
 )
 )
 )
 )
 | .inr (r0) => (
 some r0
 ))
 )
 )

noncomputable def fg (n : Nat) : Option (Bool) :=
 bdO (cz n) fun v1 => (
 bdO (fq n v1 1) fun v3 => (
 cdO ((v3.2 : Int) != 0) (
 some (false)
 ) (
 cdO (((v3.1.length : Int) : Int) != 1) (
 some (false)
 ) (
 gdO (inR 0 v3.1.length) (
 cdO (!(gt v3.1 0).Closed) (
 some (false)
 ) (
 cdO ((((gt v3.1 0).Points.length : Int) : Int) != 6) (
 some (false)
 ) (
 gdO (inR 1 (gt v3.1 0).Points.length) (
 cdO (((gt (gt v3.1 0).Points 1).A : Int) != 1) (
 some (false)
 ) (
 cdO (((gt (gt v3.1 0).Points 1).B : Int) != 4) (
 some (false)
 ) (
 bdO (cz n) fun v13 => (
 bdO (nf n v13 1) fun v15 => (
 bdO (cz n) fun v17 => (
 bdO (ik n v17 (gt v3.1 0) 1 1) fun v19 => (
 bdO (ky n 147 16) fun v21 => (
 cdO ((v15.2 : Int) == 0) (
 cdO ((v19.2 : Int) == 0) (
 cdO ((v19.1 : Int) == 1) (
 bdO (jH n v15.1 v21.1) fun v26 => (
 cdO v26 (
 bdO (cz n) fun v29 => (
 bdO (jr n v29 1 v3.1) fun v31 => (
 some ((v31 : Int) == 0)
 )
 )
 ) (
 some (false)
 )
 )
 ) (
 some (false)
 )
 ) (
 some (false)
 )
 ) (
 some (false)
 )
 )
 )
 )
 )
 )
 )
 )
 )
 )
 )
 )
 )
 )
 )
 )

def kh (n : Nat) (g : al) (n' : Int) : Option (Bool) :=
 some (decide ((g.Z.length : Int) <= n'))

def c6 (n : Nat) (n' : Int) : Option (Bool) :=
 cdO (decide (n' < (-1048576))) (
 some (true)
 ) (
 some (decide (n' > 1048576))
 )

def fe (n : Nat) (g : al) : Option (Int) :=
 cdO (decide (g.Width < 2)) (
 some (2)
 ) (
 cdO (decide (g.Width > 64)) (
 some (2)
 ) (
 cdO (decide (g.Height < 2)) (
 some (2)
 ) (
 cdO (decide (g.Height > 64)) (
 some (2)
 ) (
 cdO (decide (g.Step < 2)) (
 some (2)
 ) (
 cdO (decide (g.Step > 65536)) (
 some (2)
 ) (
 cdO (((g.Step.tmod 2) : Int) != 0) (
 some (2)
 ) (
 bdO (c6 n g.X0) fun v8 => (
 cdO v8 (
 some (2)
 ) (
 bdO (c6 n g.Y0) fun v11 => (
 cdO v11 (
 some (2)
 ) (
 cdO (((g.Z.length : Int) : Int) != (G1 (g.Width * g.Height))) (
 some (4)
 ) (
 bdO (aN (α := Int) (β := Sum (Unit) (Int)) n (fun again22 x_15 => (
 cdO (decide (x_15 < (g.Z.length : Int))) (
 gdO (inR x_15 g.Z.length) (
 cdO (((gt g.Z x_15) : Int) != (-2147483648)) (
 bdO (c6 n (gt g.Z x_15)) fun v26 => (
 cdO v26 (
 some (Sum.inr (2))
 ) (
 again22 (G1 (x_15 + 1))
 )
 )
 ) (
 again22 (G1 (x_15 + 1))
 )
 )
 ) (
 some (Sum.inl ())
 )
 )) 0) fun o29 => (
 match o29 with
 | .inl _ => (
 some (0)
 )
 | .inr (r0) => (
 some r0
 ))
 )
 )
 )
 )
 )
 )
 )
 )
 )
 )
 )
 )

def dZ (n : Nat) (g : al) (level : Int) : Option (Int) :=
 bdO (fe n g) fun v1 => (
 cdO ((v1 : Int) != 0) (
 some (v1)
 ) (
 cdO (((level.tmod 2) : Int) == 0) (
 some (1)
 ) (
 cdO (decide (level < (-2097153))) (
 some (2)
 ) (
 cdO (decide (level > 2097153)) (
 some (2)
 ) (
 some (0)
 )
 )
 )
 )
 )

def cg (n : Nat) (g : al) (level : Int) (k : Int) : Option (Bool) :=
 gdO (inR k g.Z.length) (
 some (decide ((G1 (2 * (gt g.Z k))) > level))
 )

noncomputable def cI (n : Nat) (g : al) (level : Int) (at' : A2 Int) : Option (Bool) :=
 bdO (fg n) fun v1 => (
 cdO (!v1) (
 some (false)
 ) (
 bdO (kh n g 36) fun v4 => (
 cdO (!v4) (
 some (true)
 ) (
 bdO (dZ n g level) fun v7 => (
 cdO ((v7 : Int) != 0) (
 some (true)
 ) (
 bdO (aN (α := Int) (β := Sum (Unit) (Bool)) n (fun again26 x_10 => (
 cdO (decide (x_10 < (g.Z.length : Int))) (
 gdO (inR x_10 g.Z.length) (
 gdO (!decide (g.Width = 0)) (
 cdO (((x_10.tmod g.Width) : Int) == 0) (
 cdO (((gt g.Z x_10) : Int) == (-2147483648)) (
 some (Sum.inr (true))
 ) (
 cdO (decide ((G1 (2 * (gt g.Z x_10))) > level)) (
 some (Sum.inr (true))
 ) (
 again26 (G1 (x_10 + 1))
 )
 )
 ) (
 cdO (((G1 (x_10.tdiv g.Width)) : Int) == 0) (
 cdO (((gt g.Z x_10) : Int) == (-2147483648)) (
 some (Sum.inr (true))
 ) (
 cdO (decide ((G1 (2 * (gt g.Z x_10))) > level)) (
 some (Sum.inr (true))
 ) (
 again26 (G1 (x_10 + 1))
 )
 )
 ) (
 cdO (((x_10.tmod g.Width) : Int) == (G1 (g.Width - 1))) (
 cdO (((gt g.Z x_10) : Int) == (-2147483648)) (
 some (Sum.inr (true))
 ) (
 cdO (decide ((G1 (2 * (gt g.Z x_10))) > level)) (
 some (Sum.inr (true))
 ) (
 again26 (G1 (x_10 + 1))
 )
 )
 ) (
 cdO (((gt g.Z x_10) : Int) == (-2147483648)) (
 some (Sum.inr (true))
 ) (
 cdO (((G1 (x_10.tdiv g.Width)) : Int) == (G1 (g.Height - 1))) (
 cdO (decide ((G1 (2 * (gt g.Z x_10))) > level)) (
 some (Sum.inr (true))
 ) (
 again26 (G1 (x_10 + 1))
 )
 ) (
 again26 (G1 (x_10 + 1))
 )
 )
 )
 )
 )
 )
 )
 ) (
 some (Sum.inl ())
 )
 )) 0) fun o42 => (
 match o42 with
 | .inl _ => (
 bdO (fq n g level) fun v45 => (
 cdO ((v45.2 : Int) != 0) (
 some (false)
 ) (
 gdO (!decide (g.Width = 0)) (
 gdO (!decide (g.Height = 0)) (
 bdO (aN (α := Int × Int) (β := Sum (Int) (Bool)) n (fun again59 (s_50, x_51) => (
 cdO (decide (x_51 < (v45.1.length : Int))) (
 gdO (inR x_51 v45.1.length) (
 bdO (ik n g (gt v45.1 x_51) ((G1 at'.e0).tmod g.Width) ((G1 at'.e1).tmod g.Height)) fun v62 => (
 cdO ((v62.2 : Int) != 0) (
 some (Sum.inr (false))
 ) (
 cdO (!(gt v45.1 x_51).Closed) (
 some (Sum.inr (false))
 ) (
 again59 (G1 (s_50 + v62.1), G1 (x_51 + 1))
 )
 )
 )
 )
 ) (
 some (Sum.inl s_50)
 )
 )) (0, 0)) fun o66 => (
 match o66 with
 | .inl s_58 => (
 cdO ((s_58 : Int) == 1) (
 bdO (cg n g level (G1 ((G1 (((G1 at'.e1).tmod g.Height) * g.Width)) + ((G1 at'.e0).tmod g.Width)))) fun v70 => (
 cdO v70 (
 some (true)
 ) (
 cdO ((s_58 : Int) == 0) (
 bdO (cg n g level (G1 ((G1 (((G1 at'.e1).tmod g.Height) * g.Width)) + ((G1 at'.e0).tmod g.Width)))) fun v74 => (
 some (!v74)
 )
 ) (
 some (false)
 )
 )
 )
 ) (
 cdO ((s_58 : Int) == 0) (
 bdO (cg n g level (G1 ((G1 (((G1 at'.e1).tmod g.Height) * g.Width)) + ((G1 at'.e0).tmod g.Width)))) fun v77 => (
 some (!v77)
 )
 ) (
 some (false)
 )
 )
 )
 | .inr (r0) => (
 some r0
 ))
 )
 )
 )
 )
 )
 | .inr (r0) => (
 some r0
 ))
 )
 )
 )
 )
 )
 )
abbrev iCu := iC .u32
abbrev wFu (n : Int) : Int := aa .u64 n
abbrev zN2 : List AV := [aB false, nS, aB false, nS]
abbrev zN3 : List AV := [aB false, nS, aB false, nS, aB false, nS]
abbrev zN4 : List AV := [aB false, nS, aB false, nS, aB false, nS, aB false, nS]
end Go.L