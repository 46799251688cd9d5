
import Derived.Test.YtecdcgfclgmbpaaGreatSc11Turs
import Derived.Test.YtecdcgfclgmbpaaGreatScMTurs
import Derived.Test.YtecdcgfclgmbpaaGreatScRTurs
import Derived.Test.YtecdcgfclgmbpaaGreatScUTurs
set_option linter.all false
set_option maxRecDepth 100000
set_option maxHeartbeats 4000000
namespace Go.L
open Go Go.Eng
def gb : ByteArray := ⟨#[0, 1, 2, 2, 3, 3, 3, 3, 4, 4, 4, 4, 4, 4, 4, 4, 5, 5, 5, 5, 5, 5, 5, 5, 5, 5, 5, 5, 5, 5, 5, 5, 6, 6, 6, 6, 6, 6, 6, 6, 6, 6, 6, 6, 6, 6, 6, 6, 6, 6, 6, 6, 6, 6, 6, 6, 6, 6, 6, 6, 6, 6, 6, 6, 7, 7, 7, 7, 7, 7, 7, 7, 7, 7, 7, 7, 7, 7, 7, 7, 7, 7, 7, 7, 7, 7, 7, 7, 7, 7, 7, 7, 7, 7, 7, 7, 7, 7, 7, 7, 7, 7, 7, 7, 7, 7, 7, 7, 7, 7, 7, 7, 7, 7, 7, 7, 7, 7, 7, 7, 7, 7, 7, 7, 7, 7, 7, 7, 8, 8, 8, 8, 8, 8, 8, 8, 8, 8, 8, 8, 8, 8, 8, 8, 8, 8, 8, 8, 8, 8, 8, 8, 8, 8, 8, 8, 8, 8, 8, 8, 8, 8, 8, 8, 8, 8, 8, 8, 8, 8, 8, 8, 8, 8, 8, 8, 8, 8, 8, 8, 8, 8, 8, 8, 8, 8, 8, 8, 8, 8, 8, 8, 8, 8, 8, 8, 8, 8, 8, 8, 8, 8, 8, 8, 8, 8, 8, 8, 8, 8, 8, 8, 8, 8, 8, 8, 8, 8, 8, 8, 8, 8, 8, 8, 8, 8, 8, 8, 8, 8, 8, 8, 8, 8, 8, 8, 8, 8, 8, 8, 8, 8, 8, 8, 8, 8, 8, 8, 8, 8, 8, 8, 8, 8, 8, 8]⟩
structure ar where
 X0 : Int
 Y0 : Int
 Step : Int
 Width : Int
 Height : Int
 Z : List Int
 deriving Inhabited

structure ai where
 Negative : Bool
 Groups : List Int
 deriving Inhabited

structure ak where
 Num : ai
 Den : ai
 deriving Inhabited

structure al where
 A : Int
 B : Int
 At : ak
 deriving Inhabited

structure ae where
 Closed : Bool
 Points : List al
 deriving Inhabited

structure A2 (α : Type) where
 e0 : α
 e1 : α
 deriving Inhabited, DecidableEq

def al.c (x : al) : List AV := [.at (.int .i64 x.A), .at (.int .i64 x.B), .at (.bool x.At.Num.Negative), slT (iC .u32) x.At.Num.Groups, .at (.bool x.At.Den.Negative), slT (iC .u32) x.At.Den.Groups]
theorem al.len : ∀ x, (al.c x).length = 6 := fun _ => rfl
theorem al.pure : ∀ x, dS (al.c x) = [] := fun _ => rfl

def aw.K (x : A2 Int) : Value := .agg #[.int .i64 x.e0, .int .i64 x.e1]
theorem aw.key : Bl aw.K := fun ⟨a0, a1⟩ ⟨b0, b1⟩ => by
 have h : ((⟨a0, a1⟩ : A2 Int) == ⟨b0, b1⟩) = (a0 == b0 && (a1 == b1 && true)) := by rw [Bool.eq_iff_iff]; simp
 show some _ = some _
 rw [h]

def ah.c (x : A2 Int) : List AV := [.at (.int .i64 x.e0), .at (.int .i64 x.e1)]
theorem ah.len : ∀ x, (ah.c x).length = 2 := fun _ => rfl
theorem ah.pure : ∀ x, dS (ah.c x) = [] := fun _ => rfl

structure A3 (α : Type) where
 e0 : α
 e1 : α
 e2 : α
 deriving Inhabited

def av.c (x : A3 Int) : List AV := [.at (.int .i64 x.e0), .at (.int .i64 x.e1), .at (.int .i64 x.e2)]
theorem av.len : ∀ x, (av.c x).length = 3 := fun _ => rfl
theorem av.pure : ∀ x, dS (av.c x) = [] := fun _ => rfl

def A3.get (x : A3 Int) (j : Int) : Int := gt [x.e0, x.e1, x.e2] j
def A3.put (x : A3 Int) (j v : Int) : A3 Int := ⟨if j.toNat = 0 then v else x.e0, if j.toNat = 1 then v else x.e1, if j.toNat = 2 then v else x.e2⟩
theorem A3.EC {k : IntKind} (x : A3 Int) {j : Int} (v : Int) (h : inR j 3 = true) : setCells [.at (.int k x.e0), .at (.int k x.e1), .at (.int k x.e2)] j.toNat [.at (.int k v)] = [.at (.int k (x.put j v).e0), .at (.int k (x.put j v).e1), .at (.int k (x.put j v).e2)] := by
 have h1 := aD h
 have hj : j.toNat = 0 \/ j.toNat = 1 \/ j.toNat = 2 := by omega
 unfold A3.put
 rcases hj with e | e | e <;> simp only [e] <;> rfl

def ae.c (x : ae) : List AV := [.at (.bool x.Closed), slT al.c x.Points]
theorem ae.len : ∀ x, (ae.c x).length = 2 := fun _ => rfl
theorem ae.pure : ∀ x, dS (ae.c x) = [] := fun _ => rfl

theorem al.inj : ∀ x y, al.c x = al.c y -> x = y := by
 rintro ⟨_, _, ⟨⟨_, _⟩, ⟨_, _⟩⟩⟩ ⟨_, _, ⟨⟨_, _⟩, ⟨_, _⟩⟩⟩ h
 simp only [al.c, List.cons.injEq, AV.at.injEq, Value.int.injEq, Value.bool.injEq, true_and, and_true, dY] at h
 simp_all

structure an where
 X : ak
 Y : ak
 deriving Inhabited

def an.c (x : an) : List AV := [.at (.bool x.X.Num.Negative), slT (iC .u32) x.X.Num.Groups, .at (.bool x.X.Den.Negative), slT (iC .u32) x.X.Den.Groups, .at (.bool x.Y.Num.Negative), slT (iC .u32) x.Y.Num.Groups, .at (.bool x.Y.Den.Negative), slT (iC .u32) x.Y.Den.Groups]
theorem an.len : ∀ x, (an.c x).length = 8 := fun _ => rfl
theorem an.pure : ∀ x, dS (an.c x) = [] := fun _ => rfl

def ar.c (x : ar) : List AV := [.at (.int .i64 x.X0), .at (.int .i64 x.Y0), .at (.int .i64 x.Step), .at (.int .i64 x.Width), .at (.int .i64 x.Height), slT (iC .i64) x.Z]
theorem ar.len : ∀ x, (ar.c x).length = 6 := fun _ => rfl
theorem ar.pure : ∀ x, dS (ar.c x) = [] := fun _ => rfl

def ak.c (x : ak) : List AV := [.at (.bool x.Num.Negative), slT (iC .u32) x.Num.Groups, .at (.bool x.Den.Negative), slT (iC .u32) x.Den.Groups]
theorem ak.len : ∀ x, (ak.c x).length = 4 := fun _ => rfl
theorem ak.pure : ∀ x, dS (ak.c x) = [] := fun _ => rfl

def ai.c (x : ai) : List AV := [.at (.bool x.Negative), slT (iC .u32) x.Groups]
theorem ai.len : ∀ x, (ai.c x).length = 2 := fun _ => rfl
theorem ai.pure : ∀ x, dS (ai.c x) = [] := fun _ => rfl

def di (n : Nat) : Option (ar) :=
 some (ar.mk 0 0 2 3 3 [(0 : Int), (0 : Int), (0 : Int), (0 : Int), (4 : Int), (0 : Int), (0 : Int), (0 : Int), (0 : Int)])

def e8 (n : Nat) (n' : Int) : Option (Bool) :=
 cdO (decide (n' >= 2)) (
 some (decide (n' <= 64))
 ) (
 some (false)
 )

def iM (n : Nat) (n' : Int) : Option (Bool) :=
 cdO (decide (n' < (-1048576))) (
 some (true)
 ) (
 some (decide (n' > 1048576))
 )

def jc (n : Nat) (z : Int) : Option (Bool) :=
 cdO ((z : Int) != (-2147483648)) (
 bdO (iM n z) fun v2 => (
 some (v2)
 )
 ) (
 some (false)
 )

def cj (n : Nat) (s : List Int) : Option (Int) :=
 bdO (aL (α := Int) (β := Sum (Unit) (Int)) n (fun again7 x_1 => (
 cdO (decide (x_1 < (s.length : Int))) (
 gdO (inR x_1 s.length) (
 bdO (jc n (gt s x_1)) fun v10 => (
 cdO v10 (
 some (Sum.inr (x_1))
 ) (
 again7 (EN (x_1 + 1))
 )
 )
 )
 ) (
 some (Sum.inl ())
 )
 )) 0) fun o13 => (
 match o13 with
 | .inl _ => (
 some ((-1))
 )
 | .inr (r0) => (
 some r0
 ))

def bn (n : Nat) (s : List Int) : Option (Bool) :=
 bdO (cj n s) fun v1 => (
 some (decide (v1 >= 0))
 )

def je (n : Nat) (g : ar) : Option (Int) :=
 bdO (e8 n g.Width) fun v1 => (
 cdO (!v1) (
 some (2)
 ) (
 bdO (e8 n g.Height) fun v4 => (
 cdO (!v4) (
 some (2)
 ) (
 cdO (decide (g.Step < 2)) (
 some (2)
 ) (
 cdO (decide (g.Step > 65536)) (
 some (2)
 ) (
 cdO (((g.Step.tmod 2) : Int) != 0) (
 some (2)
 ) (
 bdO (iM n g.X0) fun v10 => (
 cdO v10 (
 some (2)
 ) (
 bdO (iM n g.Y0) fun v13 => (
 cdO v13 (
 some (2)
 ) (
 cdO (((g.Z.length : Int) : Int) != (EN (g.Width * g.Height))) (
 some (4)
 ) (
 bdO (bn n g.Z) fun v17 => (
 cdO v17 (
 some (2)
 ) (
 some (0)
 )
 )
 )
 )
 )
 )
 )
 )
 )
 )
 )
 )
 )
 )

def gv (n : Nat) (g : ar) (level : Int) : Option (Int) :=
 bdO (je n g) fun v1 => (
 cdO ((v1 : Int) != 0) (
 some (v1)
 ) (
 cdO (((level.tmod 2) : Int) == 0) (
 some (1)
 ) (
 cdO (decide (level < (-2097153))) (
 some (2)
 ) (
 cdO (decide (level > 2097153)) (
 some (2)
 ) (
 some (0)
 )
 )
 )
 )
 )

def fa (n : Nat) (k : Int) (p : Int) (p' : Int) (p'' : Int) (A8 : Int) (xQ : Int) (lF : List Int) (pP : Int) : Option (Bool) :=
 gdO (inR k lF.length) (
 some (decide ((EN (2 * (gt lF k))) > pP))
 )

def kX (n : Nat) (a : Int) (b : Int) : Option (A2 Int) :=
 some (A2.mk (mn a b) (mx a b))

def kD (n : Nat) (t : A3 Int) (c : Int) (c' : Int) (c'' : Int) (yf : Int) (uh : Int) (qe : List Int) (nH : Int) (p : List (A2 Int × A2 Int)) (p' : List (A2 Int × Bool)) : Option (List (A2 Int × A2 Int) × List (A2 Int × Bool)) :=
 bdO (aL (α := Int × Int × Int × Int × Bool × Int) (β := Int × Int × Int × Int × Bool) n (fun again110 (f_71, f_72, t_73, t_74, c_75, x_76) => (
 cdO (decide (x_76 < 3)) (
 gdO (inR x_76 3) (
 gdO (inR ((EN (x_76 + 1)).tmod 3) 3) (
 bdO (some (A3.get t ((EN (x_76 + 1)).tmod 3))) fun w115 => (
 bdO (α := Bool) (
 bdO (fa n (A3.get t x_76) c c' c'' yf uh qe nH) fun v120 => (
 cdO v120 (
 bdO (fa n w115 c c' c'' yf uh qe nH) fun v123 => (
 some (!v123)
 )
 ) (
 some (false)
 )
 )
 ) fun x_119 => (
 cdO x_119 (
 bdO (kX n (A3.get t x_76) w115) fun v129 => (
 again110 (v129.e0, v129.e1, t_73, t_74, true, EN (x_76 + 1))
 )
 ) (
 bdO (fa n (A3.get t x_76) c c' c'' yf uh qe nH) fun v131 => (
 cdO (!v131) (
 bdO (fa n w115 c c' c'' yf uh qe nH) fun v134 => (
 cdO v134 (
 bdO (kX n (A3.get t x_76) w115) fun v137 => (
 again110 (f_71, f_72, v137.e0, v137.e1, c_75, EN (x_76 + 1))
 )
 ) (
 again110 (f_71, f_72, t_73, t_74, c_75, EN (x_76 + 1))
 )
 )
 ) (
 again110 (f_71, f_72, t_73, t_74, c_75, EN (x_76 + 1))
 )
 )
 )
 )
 )
 )
 )
 ) (
 some ((f_71, f_72, t_73, t_74, c_75))
 )
 )) (0, 0, 0, 0, false, 0)) fun o139 => (
 match o139 with
 | (f_105, f_106, t_107, t_108, c_109) => (
 cdO c_109 (
 some ((j5 p (A2.mk f_105 f_106) (A2.mk t_107 t_108), j5 p' (A2.mk t_107 t_108) true))
 ) (
 some ((p, p'))
 )
 ))

def bc (n : Nat) (g : ar) (c : Int) (c' : Int) (c'' : Int) (yf : Int) (uh : Int) (qe : List Int) (nH : Int) (uY : List (A2 Int × A2 Int)) (tx : List (A2 Int × Bool)) : Option (List (A2 Int × A2 Int) × List (A2 Int × Bool)) :=
 bdO (aL (α := List (A2 Int × A2 Int) × List (A2 Int × Bool) × Int) (β := List (A2 Int × A2 Int) × List (A2 Int × Bool)) n (fun again272 (c_182, c_183, x_184) => (
 cdO (decide (x_184 < (EN (g.Height - 1)))) (
 bdO (aL (α := List (A2 Int × A2 Int) × List (A2 Int × Bool) × Int) (β := List (A2 Int × A2 Int) × List (A2 Int × Bool)) n (fun again317 (c_275, c_276, x_277) => (
 cdO (decide (x_277 < (EN (g.Width - 1)))) (
 bdO (some (EN ((EN (x_184 * g.Width)) + x_277))) fun w320 => (
 bdO (some [A3.mk w320 (EN (w320 + 1)) (EN ((EN (w320 + g.Width)) + 1)), A3.mk w320 (EN ((EN (w320 + g.Width)) + 1)) (EN (w320 + g.Width))]) fun w322 => (
 bdO (aL (α := List (A2 Int × A2 Int) × List (A2 Int × Bool) × Int) (β := List (A2 Int × A2 Int) × List (A2 Int × Bool)) n (fun again340 (c_324, c_325, x_326) => (
 cdO (decide (x_326 < 2)) (
 gdO (inR x_326 w322.length) (
 gdO (inR (gt w322 x_326).e0 g.Z.length) (
 cdO (((gt g.Z (gt w322 x_326).e0) : Int) != (-2147483648)) (
 gdO (inR (gt w322 x_326).e1 g.Z.length) (
 cdO (((gt g.Z (gt w322 x_326).e1) : Int) != (-2147483648)) (
 gdO (inR (gt w322 x_326).e2 g.Z.length) (
 cdO (((gt g.Z (gt w322 x_326).e2) : Int) != (-2147483648)) (
 bdO (kD n (gt w322 x_326) c c' c'' yf uh qe nH c_324 c_325) fun v350 => (
 again340 (v350.1, v350.2, EN (x_326 + 1))
 )
 ) (
 again340 (c_324, c_325, EN (x_326 + 1))
 )
 )
 ) (
 again340 (c_324, c_325, EN (x_326 + 1))
 )
 )
 ) (
 again340 (c_324, c_325, EN (x_326 + 1))
 )
 )
 )
 ) (
 some ((c_324, c_325))
 )
 )) (c_275, c_276, 0)) fun o352 => (
 match o352 with
 | (c_338, c_339) => (
 again317 (c_338, c_339, EN (x_277 + 1))
 ))
 )
 )
 ) (
 some ((c_275, c_276))
 )
 )) (c_182, c_183, 0)) fun o355 => (
 match o355 with
 | (c_315, c_316) => (
 again272 (c_315, c_316, EN (x_184 + 1))
 ))
 ) (
 some ((c_182, c_183))
 )
 )) (uY, tx, 0)) fun o358 => (
 match o358 with
 | (c_270, c_271) => (
 some ((c_270, c_271))
 ))

def my (n : Nat) (x' : Int) : Option (Int) :=
 cdO (decide (x' >= 4294967296)) (
 cdO (decide ((x'.fdiv (2 ^ 32)) >= 65536)) (
 cdO (decide (((x'.fdiv (2 ^ 32)).fdiv (2 ^ 16)) >= 256)) (
 bdO (some (((x'.fdiv (2 ^ 32)).fdiv (2 ^ 16)).fdiv (2 ^ 8))) fun w4 => (
 gdO (inR (aa .u8 w4) 256) (
 some (EN (56 + (EN (iw gb (aa .u8 w4)))))
 )
 )
 ) (
 gdO (inR (aa .u8 ((x'.fdiv (2 ^ 32)).fdiv (2 ^ 16))) 256) (
 some (EN (48 + (EN (iw gb (aa .u8 ((x'.fdiv (2 ^ 32)).fdiv (2 ^ 16)))))))
 )
 )
 ) (
 cdO (decide ((x'.fdiv (2 ^ 32)) >= 256)) (
 gdO (inR (aa .u8 ((x'.fdiv (2 ^ 32)).fdiv (2 ^ 8))) 256) (
 some (EN (40 + (EN (iw gb (aa .u8 ((x'.fdiv (2 ^ 32)).fdiv (2 ^ 8)))))))
 )
 ) (
 gdO (inR (aa .u8 (x'.fdiv (2 ^ 32))) 256) (
 some (EN (32 + (EN (iw gb (aa .u8 (x'.fdiv (2 ^ 32)))))))
 )
 )
 )
 ) (
 cdO (decide (x' >= 65536)) (
 cdO (decide ((x'.fdiv (2 ^ 16)) >= 256)) (
 gdO (inR (aa .u8 ((x'.fdiv (2 ^ 16)).fdiv (2 ^ 8))) 256) (
 some (EN (24 + (EN (iw gb (aa .u8 ((x'.fdiv (2 ^ 16)).fdiv (2 ^ 8)))))))
 )
 ) (
 gdO (inR (aa .u8 (x'.fdiv (2 ^ 16))) 256) (
 some (EN (16 + (EN (iw gb (aa .u8 (x'.fdiv (2 ^ 16)))))))
 )
 )
 ) (
 cdO (decide (x' >= 256)) (
 gdO (inR (aa .u8 (x'.fdiv (2 ^ 8))) 256) (
 some (EN (8 + (EN (iw gb (aa .u8 (x'.fdiv (2 ^ 8)))))))
 )
 ) (
 gdO (inR (aa .u8 x') 256) (
 some (EN (0 + (EN (iw gb (aa .u8 x')))))
 )
 )
 )
 )

def j3 (n : Nat) (x' : Int) : Option (Int) :=
 bdO (my n x') fun v1 => (
 some (v1)
 )

def gM (n : Nat) (a : A2 Int) (b : A2 Int) : Option (Int) :=
 cdO ((a.e0 : Int) != b.e0) (
 some (EN (a.e0 - b.e0))
 ) (
 some (EN (a.e1 - b.e1))
 )

def bk (n : Nat) (data : List (A2 Int)) (a : Int) (b : Int) : Option (List (A2 Int)) :=
 bdO (aL (α := List (A2 Int) × Int) (β := List (A2 Int)) n (fun again72 (d_49, i_50) => (
 cdO (decide (i_50 < b)) (
 bdO (aL (α := List (A2 Int) × Int) (β := List (A2 Int)) n (fun again83 (d_74, j_75) => (
 cdO (decide (j_75 > a)) (
 gdO (inR j_75 d_74.length) (
 gdO (inR (EN (j_75 - 1)) d_74.length) (
 bdO (gM n (gt d_74 j_75) (gt d_74 (EN (j_75 - 1)))) fun v87 => (
 cdO (decide (v87 < 0)) (
 again83 ((d_74.set j_75.toNat (gt d_74 (EN (j_75 - 1)))).set (EN (j_75 - 1)).toNat (gt d_74 j_75), EN (j_75 - 1))
 ) (
 some (d_74)
 )
 )
 )
 )
 ) (
 some (d_74)
 )
 )) (d_49, i_50)) fun d_82 => (
 again72 (d_82, EN (i_50 + 1))
 )
 ) (
 some (d_49)
 )
 )) (data, EN (a + 1))) fun d_71 => (
 some (d_71)
 )

def bE (n : Nat) (data : List (A2 Int)) (a : Int) (b : Int) (limit : Int) : Option (List (A2 Int)) :=
 bdO (aL (α := Int × Int × Int × Bool × Bool) (β := List (A2 Int)) n (fun again31 (a_21, b_22, l_23, w_24, w_25) => (
 gdO ((decide ((EN (b_22 - a_21)) <= 12))) (
 bdO (bk n data a_21 b_22) fun v33 => (
 some (v33)
 )
 )
 )) (a, b, limit, true, true)) fun r0 => (
 some r0
 )

def aJ (n : Nat) (x' : List (A2 Int)) : Option (List (A2 Int)) :=
 bdO (j3 n (aa .u64 (x'.length : Int))) fun v6 => (
 bdO (bE n x' 0 (x'.length : Int) v6) fun v8 => (
 some (v8)
 )
 )

def cX (n : Nat) (n' : Int) : Option (List Int) :=
 bdO (aL (α := Int × List Int) (β := List Int) n (fun again7 (n_1, g_2) => (
 cdO (decide (n_1 > 0)) (
 gdO (decide ((g_2.length + 1) * 4 <= 140737488355328)) (
 gdO (decide (g_2.length + 1 <= 4611686018427387904)) (
 again7 (aa .u64 (n_1.tdiv 1000000000), g_2 ++ [aa .u32 (n_1.tmod 1000000000)])
 )
 )
 ) (
 some (g_2)
 )
 )) (n', [])) fun g_6 => (
 some (g_6)
 )

def eu (n : Nat) (g : List Int) : Option (List Int) :=
 bdO (aL (α := List Int) (β := List Int) n (fun again7 g_1 => (
 cdO (decide ((g_1.length : Int) > 0)) (
 gdO (inR (EN ((g_1.length : Int) - 1)) g_1.length) (
 cdO (((gt g_1 (EN ((g_1.length : Int) - 1))) : Int) == 0) (
 gdO (inS 0 (EN ((g_1.length : Int) - 1)) g_1.length) (
 again7 ((g_1.drop (0 : Int).toNat).take ((EN ((g_1.length : Int) - 1)).toNat - (0 : Int).toNat))
 )
 ) (
 some (g_1)
 )
 )
 ) (
 some (g_1)
 )
 )) g) fun g_6 => (
 some (g_6)
 )

def bW (n : Nat) (negative : Bool) (g : List Int) : Option (ai) :=
 bdO (eu n g) fun v1 => (
 cdO (((v1.length : Int) : Int) == 0) (
 some (ai.mk false [])
 ) (
 some (ai.mk negative v1)
 )
 )

def fl (n : Nat) (n' : Int) : Option (ai) :=
 cdO (decide (n' < 0)) (
 bdO (cX n (aa .u64 (0 - (aa .u64 n')))) fun v2 => (
 bdO (bW n true v2) fun v4 => (
 some (v4)
 )
 )
 ) (
 bdO (cX n (aa .u64 n')) fun v6 => (
 bdO (bW n false v6) fun v8 => (
 some (v8)
 )
 )
 )

def mB (n : Nat) (g : Int) : Option (Bool) :=
 some (decide (g >= 1000000000))

def bg (n : Nat) (s : List Int) : Option (Int) :=
 bdO (aL (α := Int) (β := Sum (Unit) (Int)) n (fun again7 x_1 => (
 cdO (decide (x_1 < (s.length : Int))) (
 gdO (inR x_1 s.length) (
 bdO (mB n (gt s x_1)) fun v10 => (
 cdO v10 (
 some (Sum.inr (x_1))
 ) (
 again7 (EN (x_1 + 1))
 )
 )
 )
 ) (
 some (Sum.inl ())
 )
 )) 0) fun o13 => (
 match o13 with
 | .inl _ => (
 some ((-1))
 )
 | .inr (r0) => (
 some r0
 ))

def aR (n : Nat) (s : List Int) : Option (Bool) :=
 bdO (bg n s) fun v1 => (
 some (decide (v1 >= 0))
 )

def dM (n : Nat) (x' : ai) : Option (Bool) :=
 cdO (((x'.Groups.length : Int) : Int) == 0) (
 some (!x'.Negative)
 ) (
 gdO (inR (EN ((x'.Groups.length : Int) - 1)) x'.Groups.length) (
 cdO (((gt x'.Groups (EN ((x'.Groups.length : Int) - 1))) : Int) != 0) (
 bdO (aR n x'.Groups) fun v4 => (
 some (!v4)
 )
 ) (
 some (false)
 )
 )
 )

def gh (n : Nat) (n' : ai) : Option (ai) :=
 bdO (dM n n') fun v1 => (
 cdO v1 (
 some (n')
 ) (
 bdO (fl n 0) fun v4 => (
 some (v4)
 )
 )
 )

def bO (n : Nat) (x' : ai) : Option (List Int) :=
 bdO (dM n x') fun v1 => (
 cdO (!v1) (
 some ([])
 ) (
 some (x'.Groups)
 )
 )

def c8 (n : Nat) (x' : ai) : Option (Int) :=
 bdO (bO n x') fun v1 => (
 cdO (((v1.length : Int) : Int) == 0) (
 some (0)
 ) (
 cdO x'.Negative (
 some ((-1))
 ) (
 some (1)
 )
 )
 )

def cz (n : Nat) (s : List Int) : Option (List Int) :=
 gdO (decide ((0 + s.length) * 4 <= 140737488355328)) (
 gdO (decide (0 + s.length <= 4611686018427387904)) (
 some (s)
 )
 )

def eF (n : Nat) (x' : ai) : Option (ai) :=
 bdO (bO n x') fun v1 => (
 bdO (cz n v1) fun v3 => (
 bdO (bW n (!x'.Negative) v3) fun v5 => (
 some (v5)
 )
 )
 )




def jj (n : Nat) (a : List Int) (b : List Int) : Option (List Int) :=
 gdO (decide (0 <= EN ((a.length : Int) + (b.length : Int)))) (
 gdO (decide ((4 : Int) * (EN ((a.length : Int) + (b.length : Int))) <= 281474976710656)) (
 gdO (decide (EN ((a.length : Int) + (b.length : Int)) <= 9223372036854775807)) (
 bdO (aL (α := List Int × Int) (β := List Int) n (fun again25 (o_4, x_5) => (
 cdO (decide (x_5 < (a.length : Int))) (
 gdO (inR x_5 a.length) (
 bdO (aL (α := List Int × Int × Int) (β := List Int × Int) n (fun again36 (o_28, c_29, x_30) => (
 cdO (decide (x_30 < (b.length : Int))) (
 gdO (inR x_30 b.length) (
 gdO (inR (EN (x_5 + x_30)) o_28.length) (
 again36 (o_28.set (EN (x_5 + x_30)).toNat (aa .u32 ((aa .u64 ((aa .u64 ((aa .u64 (gt o_28 (EN (x_5 + x_30)))) + (aa .u64 ((aa .u64 (gt a x_5)) * (aa .u64 (gt b x_30)))))) + c_29)).tmod 1000000000)), aa .u64 ((aa .u64 ((aa .u64 ((aa .u64 (gt o_28 (EN (x_5 + x_30)))) + (aa .u64 ((aa .u64 (gt a x_5)) * (aa .u64 (gt b x_30)))))) + c_29)).tdiv 1000000000), EN (x_30 + 1))
 )
 )
 ) (
 some ((o_28, c_29))
 )
 )) (o_4, 0, 0)) fun o40 => (
 match o40 with
 | (o_34, c_35) => (
 gdO (inR (EN (x_5 + (b.length : Int))) o_34.length) (
 again25 (o_34.set (EN (x_5 + (b.length : Int))).toNat (aa .u32 c_35), EN (x_5 + 1))
 )
 ))
 )
 ) (
 some (o_4)
 )
 )) (List.replicate (EN ((a.length : Int) + (b.length : Int))).toNat ((0 : Int) : Int), 0)) fun o_24 => (
 bdO (eu n o_24) fun v47 => (
 some (v47)
 )
 )
 )
 )
 )

def nc (n : Nat) (g : List Int) : Option (List Int) :=
 bdO (aL (α := List Int) (β := List Int) n (fun again22 g_16 => (
 cdO (decide ((g_16.length : Int) > 0)) (
 gdO (inR (EN ((g_16.length : Int) - 1)) g_16.length) (
 cdO (((gt g_16 (EN ((g_16.length : Int) - 1))) : Int) == 0) (
 gdO (inS 0 (EN ((g_16.length : Int) - 1)) g_16.length) (
 again22 (g_16.take (EN ((g_16.length : Int) - 1)).toNat)
 )
 ) (
 some (g_16)
 )
 )
 ) (
 some (g_16)
 )
 )) g) fun g_21 => (
 some (g_21)
 )

def iW (n : Nat) (a : List Int) (b : List Int) : Option (List Int) :=
 gdO (decide (0 <= EN ((a.length : Int) + (b.length : Int)))) (
 gdO (decide ((4 : Int) * (EN ((a.length : Int) + (b.length : Int))) <= 281474976710656)) (
 gdO (decide (EN ((a.length : Int) + (b.length : Int)) <= 9223372036854775807)) (
 bdO (aL (α := List Int × Int) (β := List Int) n (fun again74 (o_53, x_54) => (
 cdO (decide (x_54 < (a.length : Int))) (
 gdO (inR x_54 a.length) (
 bdO (aL (α := List Int × Int × Int) (β := List Int × Int) n (fun again85 (o_77, c_78, x_79) => (
 cdO (decide (x_79 < (b.length : Int))) (
 gdO (inR x_79 b.length) (
 gdO (inR (EN (x_54 + x_79)) o_77.length) (
 again85 (o_77.set (EN (x_54 + x_79)).toNat (aa .u32 ((aa .u64 ((aa .u64 ((aa .u64 (gt o_77 (EN (x_54 + x_79)))) + (aa .u64 ((aa .u64 (gt a x_54)) * (aa .u64 (gt b x_79)))))) + c_78)).tmod 1000000000)), aa .u64 ((aa .u64 ((aa .u64 ((aa .u64 (gt o_77 (EN (x_54 + x_79)))) + (aa .u64 ((aa .u64 (gt a x_54)) * (aa .u64 (gt b x_79)))))) + c_78)).tdiv 1000000000), EN (x_79 + 1))
 )
 )
 ) (
 some ((o_77, c_78))
 )
 )) (o_53, 0, 0)) fun o89 => (
 match o89 with
 | (o_83, c_84) => (
 gdO (inR (EN (x_54 + (b.length : Int))) o_83.length) (
 again74 (o_83.set (EN (x_54 + (b.length : Int))).toNat (aa .u32 c_84), EN (x_54 + 1))
 )
 ))
 )
 ) (
 some (o_53)
 )
 )) (List.replicate (EN ((a.length : Int) + (b.length : Int))).toNat ((0 : Int) : Int), 0)) fun o_73 => (
 bdO (nc n o_73) fun v96 => (
 some (v96)
 )
 )
 )
 )
 )

def gz (n : Nat) (g : List Int) (i : Int) : Option (Int) :=
 cdO (decide (i < (g.length : Int))) (
 gdO (inR i g.length) (
 some ((gt g i))
 )
 ) (
 some (0)
 )

def iN (n : Nat) (a : List Int) (b : List Int) : Option (List Int × List Int) :=
 gdO (inR (EN ((b.length : Int) - 1)) b.length) (
 gdO (!decide (aa .u64 ((aa .u64 (gt b (EN ((b.length : Int) - 1)))) + 1) = 0)) (
 bdO (iW n a [aa .u32 (aa .u64 ((1000000000 : Int).tdiv (aa .u64 ((aa .u64 (gt b (EN ((b.length : Int) - 1)))) + 1))))]) fun v3 => (
 bdO (iW n b [aa .u32 (aa .u64 ((1000000000 : Int).tdiv (aa .u64 ((aa .u64 (gt b (EN ((b.length : Int) - 1)))) + 1))))]) fun v5 => (
 gdO (decide ((v3.length + 1) * 4 <= 140737488355328)) (
 gdO (decide (v3.length + 1 <= 4611686018427387904)) (
 bdO (α := List Int) (
 cdO (decide (((v3 ++ [(0 : Int)]).length : Int) <= (a.length : Int))) (
 gdO (decide (((v3 ++ [(0 : Int)]).length + 1) * 4 <= 140737488355328)) (
 gdO (decide ((v3 ++ [(0 : Int)]).length + 1 <= 4611686018427387904)) (
 some ((v3 ++ [(0 : Int)]) ++ [(0 : Int)])
 )
 )
 ) (
 some (v3 ++ [(0 : Int)])
 )
 ) fun u_9 => (
 gdO (decide (0 <= EN ((u_9.length : Int) - (v5.length : Int)))) (
 gdO (decide ((4 : Int) * (EN ((u_9.length : Int) - (v5.length : Int))) <= 281474976710656)) (
 gdO (decide (EN ((u_9.length : Int) - (v5.length : Int)) <= 9223372036854775807)) (
 bdO (aL (α := List Int × List Int × Int) (β := List Int × List Int) n (fun again129 (q_19, u_20, j_21) => (
 cdO (decide (j_21 >= 0)) (
 bdO (gz n u_20 (EN (j_21 + (v5.length : Int)))) fun v132 => (
 gdO (inR (EN ((EN (j_21 + (v5.length : Int))) - 1)) u_20.length) (
 gdO (inR (EN ((v5.length : Int) - 1)) v5.length) (
 gdO (!decide (aa .u64 (gt v5 (EN ((v5.length : Int) - 1))) = 0)) (
 bdO (aL (α := Int × Int) (β := Int) n (fun again165 (g_156, r_157) => (
 cdO (decide (g_156 >= 1000000000)) (
 cdO (decide ((aa .u64 (r_157 + (aa .u64 (gt v5 (EN ((v5.length : Int) - 1)))))) >= 1000000000)) (
 some (aa .u64 (g_156 - 1))
 ) (
 again165 (aa .u64 (g_156 - 1), aa .u64 (r_157 + (aa .u64 (gt v5 (EN ((v5.length : Int) - 1))))))
 )
 ) (
 gdO (inR (EN ((v5.length : Int) - 2)) v5.length) (
 gdO (inR (EN ((EN (j_21 + (v5.length : Int))) - 2)) u_20.length) (
 cdO (decide ((aa .u64 (g_156 * (aa .u64 (gt v5 (EN ((v5.length : Int) - 2)))))) > (aa .u64 ((aa .u64 (r_157 * 1000000000)) + (aa .u64 (gt u_20 (EN ((EN (j_21 + (v5.length : Int))) - 2)))))))) (
 cdO (decide ((aa .u64 (r_157 + (aa .u64 (gt v5 (EN ((v5.length : Int) - 1)))))) >= 1000000000)) (
 some (aa .u64 (g_156 - 1))
 ) (
 again165 (aa .u64 (g_156 - 1), aa .u64 (r_157 + (aa .u64 (gt v5 (EN ((v5.length : Int) - 1))))))
 )
 ) (
 some (g_156)
 )
 )
 )
 )
 )) (aa .u64 ((aa .u64 ((aa .u64 ((aa .u64 v132) * 1000000000)) + (aa .u64 (gt u_20 (EN ((EN (j_21 + (v5.length : Int))) - 1)))))).tdiv (aa .u64 (gt v5 (EN ((v5.length : Int) - 1))))), (aa .u64 ((aa .u64 ((aa .u64 v132) * 1000000000)) + (aa .u64 (gt u_20 (EN ((EN (j_21 + (v5.length : Int))) - 1)))))).tmod (aa .u64 (gt v5 (EN ((v5.length : Int) - 1)))))) fun g_164 => (
 bdO (aL (α := List Int × Int × Int × Int) (β := List Int × Int × Int) n (fun again205 (u_194, b_195, c_196, x_197) => (
 cdO (decide (x_197 < (v5.length : Int))) (
 gdO (inR x_197 v5.length) (
 gdO (inR (EN (x_197 + j_21)) u_194.length) (
 cdO (decide ((EN ((EN ((EN (gt u_194 (EN (x_197 + j_21)))) - b_195)) - (EN ((aa .u64 ((aa .u64 (g_164 * (aa .u64 (gt v5 x_197)))) + c_196)).tmod 1000000000)))) < 0)) (
 again205 (u_194.set (EN (x_197 + j_21)).toNat (aa .u32 (EN ((EN ((EN ((EN (gt u_194 (EN (x_197 + j_21)))) - b_195)) - (EN ((aa .u64 ((aa .u64 (g_164 * (aa .u64 (gt v5 x_197)))) + c_196)).tmod 1000000000)))) + 1000000000))), 1, aa .u64 ((aa .u64 ((aa .u64 (g_164 * (aa .u64 (gt v5 x_197)))) + c_196)).tdiv 1000000000), EN (x_197 + 1))
 ) (
 again205 (u_194.set (EN (x_197 + j_21)).toNat (aa .u32 (EN ((EN ((EN (gt u_194 (EN (x_197 + j_21)))) - b_195)) - (EN ((aa .u64 ((aa .u64 (g_164 * (aa .u64 (gt v5 x_197)))) + c_196)).tmod 1000000000))))), 0, aa .u64 ((aa .u64 ((aa .u64 (g_164 * (aa .u64 (gt v5 x_197)))) + c_196)).tdiv 1000000000), EN (x_197 + 1))
 )
 )
 )
 ) (
 some ((u_194, b_195, c_196))
 )
 )) (u_20, 0, 0, 0)) fun o210 => (
 match o210 with
 | (u_202, b_203, c_204) => (
 gdO (inR (EN (j_21 + (v5.length : Int))) u_202.length) (
 cdO (decide ((EN ((EN ((EN (gt u_202 (EN (j_21 + (v5.length : Int))))) - b_203)) - (EN c_204))) < 0)) (
 bdO (aL (α := List Int × Int × Int) (β := List Int × Int) n (fun again224 (u_215, c_216, x_217) => (
 cdO (decide (x_217 < (v5.length : Int))) (
 gdO (inR (EN (x_217 + j_21)) u_215.length) (
 gdO (inR x_217 v5.length) (
 cdO (decide ((aa .u32 ((aa .u32 ((gt u_215 (EN (x_217 + j_21))) + (gt v5 x_217))) + c_216)) >= 1000000000)) (
 again224 (u_215.set (EN (x_217 + j_21)).toNat (aa .u32 ((aa .u32 ((aa .u32 ((gt u_215 (EN (x_217 + j_21))) + (gt v5 x_217))) + c_216)) - 1000000000)), 1, EN (x_217 + 1))
 ) (
 again224 (u_215.set (EN (x_217 + j_21)).toNat (aa .u32 ((aa .u32 ((gt u_215 (EN (x_217 + j_21))) + (gt v5 x_217))) + c_216)), 0, EN (x_217 + 1))
 )
 )
 )
 ) (
 some ((u_215, c_216))
 )
 )) (u_202.set (EN (j_21 + (v5.length : Int))).toNat (aa .u32 (EN ((EN ((EN ((EN (gt u_202 (EN (j_21 + (v5.length : Int))))) - b_203)) - (EN c_204))) + 1000000000))), 0, 0)) fun o229 => (
 match o229 with
 | (u_222, c_223) => (
 gdO (inR (EN (j_21 + (v5.length : Int))) u_222.length) (
 gdO (inR j_21 q_19.length) (
 again129 (q_19.set j_21.toNat (aa .u32 (aa .u64 (g_164 - 1))), u_222.set (EN (j_21 + (v5.length : Int))).toNat ((aa .u32 ((gt u_222 (EN (j_21 + (v5.length : Int)))) + c_223)).tmod 1000000000), EN (j_21 - 1))
 )
 )
 ))
 ) (
 gdO (inR j_21 q_19.length) (
 again129 (q_19.set j_21.toNat (aa .u32 g_164), u_202.set (EN (j_21 + (v5.length : Int))).toNat (aa .u32 (EN ((EN ((EN (gt u_202 (EN (j_21 + (v5.length : Int))))) - b_203)) - (EN c_204)))), EN (j_21 - 1))
 )
 )
 )
 ))
 )
 )
 )
 )
 )
 ) (
 some ((q_19, u_20))
 )
 )) (List.replicate (EN ((u_9.length : Int) - (v5.length : Int))).toNat ((0 : Int) : Int), u_9, EN ((EN ((u_9.length : Int) - (v5.length : Int))) - 1))) fun o235 => (
 match o235 with
 | (q_127, u_128) => (
 gdO (inS 0 (v5.length : Int) u_128.length) (
 bdO (eu n (u_128.take (v5.length : Int).toNat)) fun v239 => (
 bdO (fr n v239 (aa .u32 (aa .u64 ((1000000000 : Int).tdiv (aa .u64 ((aa .u64 (gt b (EN ((b.length : Int) - 1)))) + 1)))))) fun v241 => (
 bdO (eu n q_127) fun v243 => (
 some ((v243, v241.1))
 )
 )
 )
 )
 ))
 )
 )
 )
 )
 )
 )
 )
 )
 )
 )

def hS (n : Nat) (a : List Int) (b : List Int) : Option (List Int × List Int) :=
 bdO (fN n a b) fun v1 => (
 cdO (decide (v1 < 0)) (
 some (([], a))
 ) (
 bdO (hO n a) fun v4 => (
 bdO (hO n b) fun v6 => (
 cdO v4.2 (
 cdO v6.2 (
 gdO (!decide (v6.1 = 0)) (
 bdO (cX n (aa .u64 (v4.1.tdiv v6.1))) fun v11 => (
 bdO (cX n (v4.1.tmod v6.1)) fun v13 => (
 some ((v11, v13))
 )
 )
 )
 ) (
 cdO (((b.length : Int) : Int) == 1) (
 gdO (inR 0 b.length) (
 bdO (fr n a (gt b 0)) fun v17 => (
 bdO (cX n (aa .u64 v17.2)) fun v19 => (
 some ((v17.1, v19))
 )
 )
 )
 ) (
 bdO (iN n a b) fun v21 => (
 some ((v21.1, v21.2))
 )
 )
 )
 ) (
 cdO (((b.length : Int) : Int) == 1) (
 gdO (inR 0 b.length) (
 bdO (fr n a (gt b 0)) fun v25 => (
 bdO (cX n (aa .u64 v25.2)) fun v27 => (
 some ((v25.1, v27))
 )
 )
 )
 ) (
 bdO (iN n a b) fun v29 => (
 some ((v29.1, v29.2))
 )
 )
 )
 )
 )
 )
 )

def hZ (n : Nat) (x' : ai) (y : ai) : Option (ai) :=
 bdO (bO n x') fun v1 => (
 bdO (bO n y) fun v3 => (
 bdO (aL (α := List Int × List Int) (β := Sum (List Int) (ai)) n (fun again34 (a_5, b_6) => (
 cdO (decide ((b_6.length : Int) > 0)) (
 bdO (hO n a_5) fun v36 => (
 bdO (hO n b_6) fun v38 => (
 cdO v36.2 (
 cdO v38.2 (
 bdO (aL (α := Int × Int) (β := Int) n (fun again47 (m_42, n_43) => (
 cdO (decide (n_43 > 0)) (
 gdO (!decide (n_43 = 0)) (
 again47 (n_43, m_42.tmod n_43)
 )
 ) (
 some (m_42)
 )
 )) (v36.1, v38.1)) fun m_46 => (
 bdO (cX n m_46) fun v53 => (
 bdO (bW n false v53) fun v55 => (
 some (Sum.inr (v55))
 )
 )
 )
 ) (
 bdO (hS n a_5 b_6) fun v57 => (
 again34 (b_6, v57.2)
 )
 )
 ) (
 bdO (hS n a_5 b_6) fun v59 => (
 again34 (b_6, v59.2)
 )
 )
 )
 )
 ) (
 some (Sum.inl a_5)
 )
 )) (v1, v3)) fun o61 => (
 match o61 with
 | .inl a_33 => (
 bdO (cz n a_33) fun v64 => (
 bdO (bW n false v64) fun v66 => (
 some (v66)
 )
 )
 )
 | .inr (r0) => (
 some r0
 ))
 )
 )

def jV (n : Nat) (a : List Int) (b : List Int) : Option (List Int) :=
 gdO (decide (0 <= EN ((mx (a.length : Int) (b.length : Int)) + 1))) (
 gdO (decide ((4 : Int) * (EN ((mx (a.length : Int) (b.length : Int)) + 1)) <= 281474976710656)) (
 gdO (decide (EN ((mx (a.length : Int) (b.length : Int)) + 1) <= 9223372036854775807)) (
 bdO (aL (α := List Int × Int × Int) (β := List Int) n (fun again16 (o_4, c_5, x_6) => (
 cdO (decide (x_6 < ((List.replicate (EN ((mx (a.length : Int) (b.length : Int)) + 1)).toNat ((0 : Int) : Int)).length : Int))) (
 bdO (gz n a x_6) fun v18 => (
 bdO (gz n b x_6) fun v20 => (
 cdO (decide ((aa .u32 ((aa .u32 (v18 + v20)) + c_5)) >= 1000000000)) (
 gdO (inR x_6 o_4.length) (
 again16 (o_4.set x_6.toNat (aa .u32 ((aa .u32 ((aa .u32 (v18 + v20)) + c_5)) - 1000000000)), 1, EN (x_6 + 1))
 )
 ) (
 gdO (inR x_6 o_4.length) (
 again16 (o_4.set x_6.toNat (aa .u32 ((aa .u32 (v18 + v20)) + c_5)), 0, EN (x_6 + 1))
 )
 )
 )
 )
 ) (
 some (o_4)
 )
 )) (List.replicate (EN ((mx (a.length : Int) (b.length : Int)) + 1)).toNat ((0 : Int) : Int), 0, 0)) fun o_15 => (
 bdO (eu n o_15) fun v28 => (
 some (v28)
 )
 )
 )
 )
 )

def iq (n : Nat) (a : List Int) (b : List Int) : Option (List Int) :=
 gdO (decide (0 <= (a.length : Int))) (
 gdO (decide ((4 : Int) * (a.length : Int) <= 281474976710656)) (
 gdO (decide ((a.length : Int) <= 9223372036854775807)) (
 bdO (aL (α := List Int × Int × Int) (β := List Int) n (fun again15 (o_4, b_5, x_6) => (
 cdO (decide (x_6 < ((List.replicate (a.length : Int).toNat ((0 : Int) : Int)).length : Int))) (
 bdO (gz n b x_6) fun v17 => (
 gdO (inR x_6 a.length) (
 cdO (decide ((gt a x_6) < (aa .u32 (v17 + b_5)))) (
 gdO (inR x_6 o_4.length) (
 again15 (o_4.set x_6.toNat (aa .u32 ((aa .u32 ((gt a x_6) + 1000000000)) - (aa .u32 (v17 + b_5)))), 1, EN (x_6 + 1))
 )
 ) (
 gdO (inR x_6 o_4.length) (
 again15 (o_4.set x_6.toNat (aa .u32 ((gt a x_6) - (aa .u32 (v17 + b_5)))), 0, EN (x_6 + 1))
 )
 )
 )
 )
 ) (
 some (o_4)
 )
 )) (List.replicate (a.length : Int).toNat ((0 : Int) : Int), 0, 0)) fun o_14 => (
 bdO (eu n o_14) fun v26 => (
 some (v26)
 )
 )
 )
 )
 )

def dL (n : Nat) (x' : ai) (y : ai) : Option (ai × ai × Int) :=
 bdO (bO n x') fun v1 => (
 bdO (bO n y) fun v3 => (
 cdO (((v3.length : Int) : Int) == 0) (
 some ((ai.mk false [], ai.mk false [], 14))
 ) (
 bdO (hS n v1 v3) fun v6 => (
 bdO (cz n v6.2) fun v8 => (
 cdO (decide ((v8.length : Int) > 0)) (
 cdO (x'.Negative != y.Negative) (
 bdO (jV n v6.1 [(1 : Int)]) fun v12 => (
 bdO (iq n v3 v8) fun v14 => (
 bdO (bW n true v12) fun v16 => (
 bdO (bW n y.Negative v14) fun v18 => (
 some ((v16, v18, 0))
 )
 )
 )
 )
 ) (
 bdO (bW n false v6.1) fun v20 => (
 bdO (bW n y.Negative v8) fun v22 => (
 some ((v20, v22, 0))
 )
 )
 )
 ) (
 bdO (bW n (x'.Negative != y.Negative) v6.1) fun v24 => (
 bdO (bW n y.Negative v8) fun v26 => (
 some ((v24, v26, 0))
 )
 )
 )
 )
 )
 )
 )
 )

def eE (n : Nat) (num : ai) (den : ai) : Option (ak) :=
 bdO (c8 n den) fun v1 => (
 cdO (decide (v1 < 0)) (
 bdO (eF n num) fun v4 => (
 bdO (eF n den) fun v6 => (
 bdO (hZ n v4 v6) fun v8 => (
 bdO (dL n v4 v8) fun v10 => (
 bdO (dL n v6 v8) fun v12 => (
 some (ak.mk v10.1 v12.1)
 )
 )
 )
 )
 )
 ) (
 bdO (hZ n num den) fun v14 => (
 bdO (dL n num v14) fun v16 => (
 bdO (dL n den v14) fun v18 => (
 some (ak.mk v16.1 v18.1)
 )
 )
 )
 )
 )

def py (n : Nat) (num : ai) (den : ai) : Option (ak × Int) :=
 bdO (gh n num) fun v1 => (
 bdO (gh n den) fun v3 => (
 bdO (c8 n v3) fun v5 => (
 cdO ((v5 : Int) == 0) (
 some ((ak.mk (ai.mk false []) (ai.mk false []), 14))
 ) (
 bdO (eE n v1 v3) fun v8 => (
 some ((v8, 0))
 )
 )
 )
 )
 )

def jB (n : Nat) (n' : Int) (d : Int) : Option (ak × Int) :=
 bdO (fl n n') fun v1 => (
 bdO (fl n d) fun v3 => (
 bdO (py n v1 v3) fun v5 => (
 some ((v5.1, v5.2))
 )
 )
 )

def lL (n : Nat) (g : ar) (level : Int) (e : A2 Int) : Option (al) :=
 gdO (inR e.e0 g.Z.length) (
 gdO (inR e.e1 g.Z.length) (
 bdO (jB n (EN (level - (EN (2 * (gt g.Z e.e0))))) (EN (2 * (EN ((gt g.Z e.e1) - (gt g.Z e.e0)))))) fun v3 => (
 some (al.mk e.e0 e.e1 v3.1)
 )
 )
 )

def fF (n : Nat) (start : A2 Int) (closed : Bool) (p : List (A2 Int × Bool)) (p' : Int) (p'' : Int) (A8 : Int) (xQ : Int) (lF : Int) (pP : List Int) (oC : Int) (jN : List (A2 Int × A2 Int)) (jw : List ae) : Option (List (A2 Int × Bool) × List ae) :=
 bdO (aL (α := List (A2 Int × Bool) × List al × Int × Int) (β := List (A2 Int × Bool) × List al) n (fun again39 (p_27, c_28, a_29, a_30) => (
 bdO (lL n (ar.mk p' p'' A8 xQ lF pP) oC (A2.mk a_29 a_30)) fun v40 => (
 gdO (decide ((c_28.length + 1) * 80 <= 140737488355328)) (
 gdO (decide (c_28.length + 1 <= 4611686018427387904)) (
 cdO (!(p7 jN (A2.mk a_29 a_30))) (
 some ((j5 p_27 (A2.mk a_29 a_30) true, c_28 ++ [v40]))
 ) (
 cdO (getM false (j5 p_27 (A2.mk a_29 a_30) true) (getM (A2.mk 0 0 : A2 Int) jN (A2.mk a_29 a_30))) (
 some ((j5 p_27 (A2.mk a_29 a_30) true, c_28 ++ [v40]))
 ) (
 again39 (j5 p_27 (A2.mk a_29 a_30) true, c_28 ++ [v40], (getM (A2.mk 0 0 : A2 Int) jN (A2.mk a_29 a_30)).e0, (getM (A2.mk 0 0 : A2 Int) jN (A2.mk a_29 a_30)).e1)
 )
 )
 )
 )
 )
 )) (p, [], start.e0, start.e1)) fun o46 => (
 match o46 with
 | (p_37, c_38) => (
 gdO (decide ((jw.length + 1) * 32 <= 140737488355328)) (
 gdO (decide (jw.length + 1 <= 4611686018427387904)) (
 some ((p_37, jw ++ [ae.mk closed c_38]))
 )
 )
 ))

def gg (n : Nat) (c : ae) : Option (A2 Int) :=
 gdO (inR 0 c.Points.length) (
 some (A2.mk (gt c.Points 0).A (gt c.Points 0).B)
 )

def mF (n : Nat) (a : ae) (b : ae) : Option (Int) :=
 bdO (gg n a) fun v1 => (
 bdO (gg n b) fun v3 => (
 bdO (gM n v1 v3) fun v5 => (
 some (v5)
 )
 )
 )

def bl (n : Nat) (data : List ae) (a : Int) (b : Int) : Option (List ae) :=
 bdO (aL (α := List ae × Int) (β := List ae) n (fun again72 (d_49, i_50) => (
 cdO (decide (i_50 < b)) (
 bdO (aL (α := List ae × Int) (β := List ae) n (fun again83 (d_74, j_75) => (
 cdO (decide (j_75 > a)) (
 gdO (inR j_75 d_74.length) (
 gdO (inR (EN (j_75 - 1)) d_74.length) (
 bdO (mF n (gt d_74 j_75) (gt d_74 (EN (j_75 - 1)))) fun v87 => (
 cdO (decide (v87 < 0)) (
 again83 ((d_74.set j_75.toNat (gt d_74 (EN (j_75 - 1)))).set (EN (j_75 - 1)).toNat (gt d_74 j_75), EN (j_75 - 1))
 ) (
 some (d_74)
 )
 )
 )
 )
 ) (
 some (d_74)
 )
 )) (d_49, i_50)) fun d_82 => (
 again72 (d_82, EN (i_50 + 1))
 )
 ) (
 some (d_49)
 )
 )) (data, EN (a + 1))) fun d_71 => (
 some (d_71)
 )

def bF (n : Nat) (data : List ae) (a : Int) (b : Int) (limit : Int) : Option (List ae) :=
 bdO (aL (α := Int × Int × Int × Bool × Bool) (β := List ae) n (fun again31 (a_21, b_22, l_23, w_24, w_25) => (
 gdO ((decide ((EN (b_22 - a_21)) <= 12))) (
 bdO (bl n data a_21 b_22) fun v33 => (
 some (v33)
 )
 )
 )) (a, b, limit, true, true)) fun r0 => (
 some r0
 )

def aW (n : Nat) (x' : List ae) : Option (List ae) :=
 bdO (j3 n (aa .u64 (x'.length : Int))) fun v6 => (
 bdO (bF n x' 0 (x'.length : Int) v6) fun v8 => (
 some (v8)
 )
 )

noncomputable def im (n : Nat) (g : ar) (level : Int) : Option (List ae) :=
 bdO (bc n g g.X0 g.Y0 g.Step g.Width g.Height g.Z level ([] : List (A2 Int × A2 Int)) ([] : List (A2 Int × Bool))) fun v1 => (
 xH (ε := A2 Int × A2 Int) (σ := List (A2 Int)) v1.1 (fun s_16 e12 => (
 gdO (decide ((s_16.length + 1) * 16 <= 140737488355328)) (
 gdO (decide (s_16.length + 1 <= 4611686018427387904)) (
 some (s_16 ++ [e12.1])
 )
 )
 )) [] fun s_16 => (
 bdO (aJ n s_16) fun v21 => (
 gdO (decide (v21.length = s_16.length)) (
 bdO (aL (α := List (A2 Int × Bool) × List ae × Int) (β := List (A2 Int × Bool) × List ae) n (fun again56 (d_45, o_46, x_47) => (
 cdO (decide (x_47 < (s_16.length : Int))) (
 gdO (inR x_47 v21.length) (
 cdO (!(getM false v1.2 (gt v21 x_47))) (
 bdO (fF n (gt v21 x_47) false d_45 g.X0 g.Y0 g.Step g.Width g.Height g.Z level v1.1 o_46) fun v61 => (
 again56 (v61.1, v61.2, EN (x_47 + 1))
 )
 ) (
 again56 (d_45, o_46, EN (x_47 + 1))
 )
 )
 ) (
 some ((d_45, o_46))
 )
 )) (([] : List (A2 Int × Bool)), [], 0)) fun o63 => (
 match o63 with
 | (d_54, o_55) => (
 bdO (aL (α := List (A2 Int × Bool) × List ae × Int) (β := List ae) n (fun again76 (d_66, o_67, x_68) => (
 cdO (decide (x_68 < (v21.length : Int))) (
 gdO (inR x_68 v21.length) (
 cdO (!(getM false d_66 (gt v21 x_68))) (
 bdO (fF n (gt v21 x_68) true d_66 g.X0 g.Y0 g.Step g.Width g.Height g.Z level v1.1 o_67) fun v81 => (
 again76 (v81.1, v81.2, EN (x_68 + 1))
 )
 ) (
 again76 (d_66, o_67, EN (x_68 + 1))
 )
 )
 ) (
 some (o_67)
 )
 )) (d_54, o_55, 0)) fun o_75 => (
 bdO (aW n o_75) fun v86 => (
 gdO (decide (v86.length = o_75.length)) (
 some (v86)
 )
 )
 )
 ))
 )
 )
 )
 )

noncomputable def j8 (n : Nat) (g : ar) (level : Int) : Option (List ae × Int) :=
 bdO (gv n g level) fun v1 => (
 cdO ((v1 : Int) != 0) (
 some (([], v1))
 ) (
 bdO (im n g level) fun v4 => (
 some ((v4, 0))
 )
 )
 )

def bm (n : Nat) (n' : Int) : Option (ak) :=
 bdO (fl n n') fun v1 => (
 bdO (fl n 1) fun v3 => (
 some (ak.mk v1 v3)
 )
 )

def j2 (n : Nat) (x' : Int) : Option (Bool) :=
 some ((x' : Int) != x')

def jb (n : Nat) (x' : Int) (y : Int) : Option (Int) :=
 bdO (j2 n x') fun v1 => (
 bdO (j2 n y) fun v3 => (
 cdO v1 (
 cdO v3 (
 some (0)
 ) (
 some ((-1))
 )
 ) (
 cdO v3 (
 some (1)
 ) (
 cdO (decide (x' < y)) (
 some ((-1))
 ) (
 cdO (decide (x' > y)) (
 some (1)
 ) (
 some (0)
 )
 )
 )
 )
 )
 )

def fc (n : Nat) (x' : ai) (y : ai) : Option (Int) :=
 bdO (c8 n x') fun v1 => (
 bdO (c8 n y) fun v3 => (
 cdO ((v1 : Int) != v3) (
 bdO (jb n v1 v3) fun v6 => (
 some (v6)
 )
 ) (
 bdO (bO n x') fun v8 => (
 bdO (bO n y) fun v10 => (
 bdO (fN n v8 v10) fun v12 => (
 cdO x'.Negative (
 some (EN (0 - v12))
 ) (
 some (v12)
 )
 )
 )
 )
 )
 )
 )

def cS (n : Nat) (x' : ak) : Option (Bool) :=
 bdO (dM n x'.Num) fun v1 => (
 cdO (!v1) (
 some (false)
 ) (
 bdO (dM n x'.Den) fun v4 => (
 cdO (!v4) (
 some (false)
 ) (
 bdO (c8 n x'.Den) fun v7 => (
 cdO (decide (v7 <= 0)) (
 some (false)
 ) (
 bdO (hZ n x'.Num x'.Den) fun v10 => (
 bdO (fl n 1) fun v12 => (
 bdO (fc n v10 v12) fun v14 => (
 some ((v14 : Int) == 0)
 )
 )
 )
 )
 )
 )
 )
 )
 )

def iX (n : Nat) (x' : ak) : Option (ak) :=
 bdO (eF n x'.Num) fun v1 => (
 bdO (eF n v1) fun v3 => (
 bdO (eF n x'.Den) fun v5 => (
 bdO (eF n v5) fun v7 => (
 some (ak.mk v3 v7)
 )
 )
 )
 )

def cl (n : Nat) (x' : ak) : Option (ak) :=
 bdO (cS n x') fun v1 => (
 cdO v1 (
 bdO (iX n x') fun v4 => (
 some (v4)
 )
 ) (
 bdO (bm n 0) fun v6 => (
 some (v6)
 )
 )
 )

def bM (n : Nat) (x' : ak) : Option (Int) :=
 bdO (cl n x') fun v1 => (
 bdO (c8 n v1.Num) fun v3 => (
 some (v3)
 )
 )

def kM (n : Nat) (x' : ak) : Option (ak) :=
 bdO (cl n x') fun v1 => (
 bdO (eF n v1.Num) fun v3 => (
 some (ak.mk v3 v1.Den)
 )
 )

def dK (n : Nat) (x' : ai) (y : ai) : Option (ai) :=
 bdO (bO n x') fun v1 => (
 bdO (bO n y) fun v3 => (
 bdO (jj n v1 v3) fun v5 => (
 bdO (bW n (x'.Negative != y.Negative) v5) fun v7 => (
 some (v7)
 )
 )
 )
 )

def mj (n : Nat) (negative : Bool) (a : List Int) (other : Bool) (b : List Int) : Option (ai) :=
 cdO (negative == other) (
 bdO (jV n a b) fun v2 => (
 bdO (bW n negative v2) fun v4 => (
 some (v4)
 )
 )
 ) (
 bdO (fN n a b) fun v6 => (
 cdO (decide (v6 >= 0)) (
 bdO (iq n a b) fun v9 => (
 bdO (bW n negative v9) fun v11 => (
 some (v11)
 )
 )
 ) (
 bdO (iq n b a) fun v13 => (
 bdO (bW n other v13) fun v15 => (
 some (v15)
 )
 )
 )
 )
 )

def l5 (n : Nat) (x' : ai) (y : ai) : Option (ai) :=
 bdO (bO n x') fun v1 => (
 bdO (bO n y) fun v3 => (
 bdO (mj n x'.Negative v1 y.Negative v3) fun v5 => (
 some (v5)
 )
 )
 )

def fw (n : Nat) (x' : ak) (y : ak) : Option (ak) :=
 bdO (cl n x') fun v1 => (
 bdO (cl n y) fun v3 => (
 bdO (dK n v1.Num v3.Den) fun v5 => (
 bdO (dK n v3.Num v1.Den) fun v7 => (
 bdO (l5 n v5 v7) fun v9 => (
 bdO (dK n v1.Den v3.Den) fun v11 => (
 bdO (eE n v9 v11) fun v13 => (
 some (v13)
 )
 )
 )
 )
 )
 )
 )

def dw (n : Nat) (x' : ak) (y : ak) : Option (ak) :=
 bdO (kM n y) fun v1 => (
 bdO (fw n x' v1) fun v3 => (
 some (v3)
 )
 )

def ki (n : Nat) (p : ak) (p' : ak) (p'' : ak) (tip : ak) : Option (ak) :=
 bdO (bm n 1) fun v1 => (
 bdO (dw n v1 tip) fun v3 => (
 some (v3)
 )
 )

def dm (n : Nat) (x' : ak) (y : ak) : Option (ak) :=
 bdO (cl n x') fun v1 => (
 bdO (cl n y) fun v3 => (
 bdO (dK n v1.Num v3.Num) fun v5 => (
 bdO (dK n v1.Den v3.Den) fun v7 => (
 bdO (eE n v5 v7) fun v9 => (
 some (v9)
 )
 )
 )
 )
 )

def mA (n : Nat) (x' : ak) (y : ak) : Option (ak × Int) :=
 bdO (cl n x') fun v1 => (
 bdO (cl n y) fun v3 => (
 bdO (c8 n v3.Num) fun v5 => (
 cdO ((v5 : Int) == 0) (
 some ((ak.mk (ai.mk false []) (ai.mk false []), 14))
 ) (
 bdO (dK n v1.Num v3.Den) fun v8 => (
 bdO (dK n v1.Den v3.Num) fun v10 => (
 bdO (eE n v8 v10) fun v12 => (
 some ((v12, 0))
 )
 )
 )
 )
 )
 )
 )

def oz (n : Nat) (a : ak) (b : ak) (c : ak) : Option (ak) :=
 bdO (dm n a a) fun v1 => (
 bdO (dw n a b) fun v3 => (
 bdO (dw n a c) fun v5 => (
 bdO (dm n v3 v5) fun v7 => (
 bdO (mA n v1 v7) fun v9 => (
 some (v9.1)
 )
 )
 )
 )
 )

def lj (n : Nat) (t : A3 Int) (p : Int) (p' : Int) (p'' : Int) (A8 : Int) (xQ : Int) (lF : List Int) (pP : Int) (oC : Bool) (jN : List Int) (jw : Bool) (nJ : List Int) : Option (Bool × List Int × Bool × List Int) :=
 bdO (α := Bool × List Int × Bool × List Int × Int) (
 gdO (inR t.e0 lF.length) (
 bdO (jB n (EN ((EN (2 * (gt lF t.e0))) - pP)) 2) fun v285 => (
 bdO (bM n v285.1) fun v287 => (
 cdO (decide (v287 > 0)) (
 some ((v285.1.Num.Negative, v285.1.Num.Groups, v285.1.Den.Negative, v285.1.Den.Groups, 1))
 ) (
 some ((v285.1.Num.Negative, v285.1.Num.Groups, v285.1.Den.Negative, v285.1.Den.Groups, 0))
 )
 )
 )
 )
 ) fun o290 => (
 match o290 with
 | (h_279, h_280, h_281, h_282, u_283) => (
 bdO (α := Bool × List Int × Bool × List Int × Int) (
 gdO (inR t.e1 lF.length) (
 bdO (jB n (EN ((EN (2 * (gt lF t.e1))) - pP)) 2) fun v299 => (
 bdO (bM n v299.1) fun v301 => (
 cdO (decide (v301 > 0)) (
 some ((v299.1.Num.Negative, v299.1.Num.Groups, v299.1.Den.Negative, v299.1.Den.Groups, EN (u_283 + 1)))
 ) (
 some ((v299.1.Num.Negative, v299.1.Num.Groups, v299.1.Den.Negative, v299.1.Den.Groups, u_283))
 )
 )
 )
 )
 ) fun o304 => (
 match o304 with
 | (h_293, h_294, h_295, h_296, u_297) => (
 bdO (α := Bool × List Int × Bool × List Int × Int) (
 gdO (inR t.e2 lF.length) (
 bdO (jB n (EN ((EN (2 * (gt lF t.e2))) - pP)) 2) fun v313 => (
 bdO (bM n v313.1) fun v315 => (
 cdO (decide (v315 > 0)) (
 some ((v313.1.Num.Negative, v313.1.Num.Groups, v313.1.Den.Negative, v313.1.Den.Groups, EN (u_297 + 1)))
 ) (
 some ((v313.1.Num.Negative, v313.1.Num.Groups, v313.1.Den.Negative, v313.1.Den.Groups, u_297))
 )
 )
 )
 )
 ) fun o318 => (
 match o318 with
 | (h_307, h_308, h_309, h_310, u_311) => (
 cdO ((u_311 : Int) == 0) (
 some ((oC, jN, jw, nJ))
 ) (
 cdO ((u_311 : Int) == 3) (
 bdO (bm n 0) fun v346 => (
 bdO (ki n (ak.mk (ai.mk h_279 h_280) (ai.mk h_281 h_282)) (ak.mk (ai.mk h_293 h_294) (ai.mk h_295 h_296)) (ak.mk (ai.mk h_307 h_308) (ai.mk h_309 h_310)) v346) fun v348 => (
 bdO (fw n (ak.mk (ai.mk oC jN) (ai.mk jw nJ)) v348) fun v350 => (
 some ((v350.Num.Negative, v350.Num.Groups, v350.Den.Negative, v350.Den.Groups))
 )
 )
 )
 ) (
 bdO (aL (α := Bool × List Int × Bool × List Int × Bool × List Int × Bool × List Int × Bool × List Int × Bool × List Int) (β := Bool × List Int × Bool × List Int × Bool × List Int × Bool × List Int × Bool × List Int × Bool × List Int) n (fun again443 (h_406, h_407, h_408, h_409, h_410, h_411, h_412, h_413, h_414, h_415, h_416, h_417) => (
 bdO (α := Sum (Unit) (Unit)) (
 bdO (bM n (ak.mk (ai.mk h_406 h_407) (ai.mk h_408 h_409))) fun v446 => (
 cdO ((decide (v446 > 0)) != ((u_311 : Int) == 1)) (
 some (Sum.inr (()))
 ) (
 bdO (bM n (ak.mk (ai.mk h_410 h_411) (ai.mk h_412 h_413))) fun v449 => (
 bdO (bM n (ak.mk (ai.mk h_414 h_415) (ai.mk h_416 h_417))) fun v451 => (
 cdO ((decide (v449 > 0)) != (decide (v451 > 0))) (
 some (Sum.inr (()))
 ) (
 some (Sum.inl ())
 )
 )
 )
 )
 )
 ) fun o454 => (
 match o454 with
 | .inl _ => (
 some ((h_406, h_407, h_408, h_409, h_410, h_411, h_412, h_413, h_414, h_415, h_416, h_417))
 )
 | .inr (_) => (
 again443 (h_410, h_411, h_412, h_413, h_414, h_415, h_416, h_417, h_406, h_407, h_408, h_409)
 ))
 )) (h_279, h_280, h_281, h_282, h_293, h_294, h_295, h_296, h_307, h_308, h_309, h_310)) fun o457 => (
 match o457 with
 | (h_431, h_432, h_433, h_434, h_435, h_436, h_437, h_438, h_439, h_440, h_441, h_442) => (
 bdO (oz n (ak.mk (ai.mk h_431 h_432) (ai.mk h_433 h_434)) (ak.mk (ai.mk h_435 h_436) (ai.mk h_437 h_438)) (ak.mk (ai.mk h_439 h_440) (ai.mk h_441 h_442))) fun v460 => (
 cdO ((u_311 : Int) == 2) (
 bdO (ki n (ak.mk (ai.mk h_431 h_432) (ai.mk h_433 h_434)) (ak.mk (ai.mk h_435 h_436) (ai.mk h_437 h_438)) (ak.mk (ai.mk h_439 h_440) (ai.mk h_441 h_442)) v460) fun v463 => (
 bdO (fw n (ak.mk (ai.mk oC jN) (ai.mk jw nJ)) v463) fun v465 => (
 some ((v465.Num.Negative, v465.Num.Groups, v465.Den.Negative, v465.Den.Groups))
 )
 )
 ) (
 bdO (fw n (ak.mk (ai.mk oC jN) (ai.mk jw nJ)) v460) fun v467 => (
 some ((v467.Num.Negative, v467.Num.Groups, v467.Den.Negative, v467.Den.Groups))
 )
 )
 )
 ))
 )
 )
 ))
 ))
 ))

def dH (n : Nat) (g : ar) (c : Int) (c' : Int) (c'' : Int) (yf : Int) (uh : Int) (qe : List Int) (nH : Int) (uY : Bool) (tx : List Int) (yS : Bool) (yq : List Int) : Option (Bool × List Int × Bool × List Int) :=
 bdO (aL (α := Bool × List Int × Bool × List Int × Int) (β := Bool × List Int × Bool × List Int) n (fun again318 (c_212, c_213, c_214, c_215, x_216) => (
 cdO (decide (x_216 < (EN (g.Height - 1)))) (
 bdO (aL (α := Bool × List Int × Bool × List Int × Int) (β := Bool × List Int × Bool × List Int) n (fun again371 (c_321, c_322, c_323, c_324, x_325) => (
 cdO (decide (x_325 < (EN (g.Width - 1)))) (
 bdO (some (EN ((EN (x_216 * g.Width)) + x_325))) fun w374 => (
 bdO (some [A3.mk w374 (EN (w374 + 1)) (EN ((EN (w374 + g.Width)) + 1)), A3.mk w374 (EN ((EN (w374 + g.Width)) + 1)) (EN (w374 + g.Width))]) fun w376 => (
 bdO (aL (α := Bool × List Int × Bool × List Int × Int) (β := Bool × List Int × Bool × List Int) n (fun again398 (c_378, c_379, c_380, c_381, x_382) => (
 cdO (decide (x_382 < 2)) (
 gdO (inR x_382 w376.length) (
 gdO (inR (gt w376 x_382).e0 g.Z.length) (
 cdO (((gt g.Z (gt w376 x_382).e0) : Int) != (-2147483648)) (
 gdO (inR (gt w376 x_382).e1 g.Z.length) (
 cdO (((gt g.Z (gt w376 x_382).e1) : Int) != (-2147483648)) (
 gdO (inR (gt w376 x_382).e2 g.Z.length) (
 cdO (((gt g.Z (gt w376 x_382).e2) : Int) != (-2147483648)) (
 bdO (lj n (gt w376 x_382) c c' c'' yf uh qe nH c_378 c_379 c_380 c_381) fun v408 => (
 again398 (v408.1, v408.2.1, v408.2.2.1, v408.2.2.2, EN (x_382 + 1))
 )
 ) (
 again398 (c_378, c_379, c_380, c_381, EN (x_382 + 1))
 )
 )
 ) (
 again398 (c_378, c_379, c_380, c_381, EN (x_382 + 1))
 )
 )
 ) (
 again398 (c_378, c_379, c_380, c_381, EN (x_382 + 1))
 )
 )
 )
 ) (
 some ((c_378, c_379, c_380, c_381))
 )
 )) (c_321, c_322, c_323, c_324, 0)) fun o410 => (
 match o410 with
 | (c_394, c_395, c_396, c_397) => (
 again371 (c_394, c_395, c_396, c_397, EN (x_325 + 1))
 ))
 )
 )
 ) (
 some ((c_321, c_322, c_323, c_324))
 )
 )) (c_212, c_213, c_214, c_215, 0)) fun o413 => (
 match o413 with
 | (c_367, c_368, c_369, c_370) => (
 again318 (c_367, c_368, c_369, c_370, EN (x_216 + 1))
 ))
 ) (
 some ((c_212, c_213, c_214, c_215))
 )
 )) (uY, tx, yS, yq, 0)) fun o416 => (
 match o416 with
 | (c_314, c_315, c_316, c_317) => (
 some ((c_314, c_315, c_316, c_317))
 ))

def cE (n : Nat) (g : ar) (level : Int) : Option (ak) :=
 bdO (bm n 0) fun v1 => (
 bdO (dH n g g.X0 g.Y0 g.Step g.Width g.Height g.Z level v1.Num.Negative v1.Num.Groups v1.Den.Negative v1.Den.Groups) fun v3 => (
 bdO (jB n (EN (g.Step * g.Step)) 2) fun v5 => (
 bdO (dm n (ak.mk (ai.mk v3.1 v3.2.1) (ai.mk v3.2.2.1 v3.2.2.2)) v5.1) fun v7 => (
 some (v7)
 )
 )
 )
 )

def ot (n : Nat) (g : ar) (level : Int) : Option (ak × Int) :=
 bdO (gv n g level) fun v1 => (
 cdO ((v1 : Int) != 0) (
 some ((ak.mk (ai.mk false []) (ai.mk false []), v1))
 ) (
 bdO (cE n g level) fun v4 => (
 some ((v4, 0))
 )
 )
 )

def gY (n : Nat) (s : List Int) (v : Int) : Option (Int) :=
 bdO (aL (α := Int) (β := Sum (Unit) (Int)) n (fun again5 x_1 => (
 cdO (decide (x_1 < (s.length : Int))) (
 gdO (inR x_1 s.length) (
 cdO ((v : Int) == (gt s x_1)) (
 some (Sum.inr (x_1))
 ) (
 again5 (EN (x_1 + 1))
 )
 )
 ) (
 some (Sum.inl ())
 )
 )) 0) fun o9 => (
 match o9 with
 | .inl _ => (
 some ((-1))
 )
 | .inr (r0) => (
 some r0
 ))

def cb (n : Nat) (s : List Int) (v : Int) : Option (Bool) :=
 bdO (gY n s v) fun v1 => (
 some (decide (v1 >= 0))
 )

def fh (n : Nat) (t : A3 Int) (p : Bool) (p' : Int) (p'' : Int) : Option (Bool) :=
 cdO p (
 some (true)
 ) (
 bdO (cb n [t.e0, t.e1, t.e2] p') fun v9 => (
 cdO v9 (
 bdO (cb n [t.e0, t.e1, t.e2] p'') fun v12 => (
 some (v12)
 )
 ) (
 some (false)
 )
 )
 )

def cH (n : Nat) (g : ar) (c : Bool) (c' : Int) (c'' : Int) : Option (Bool) :=
 bdO (aL (α := Bool × Int) (β := Bool) n (fun again249 (c_167, x_168) => (
 cdO (decide (x_168 < (EN (g.Height - 1)))) (
 bdO (aL (α := Bool × Int) (β := Bool) n (fun again290 (c_252, x_253) => (
 cdO (decide (x_253 < (EN (g.Width - 1)))) (
 bdO (some (EN ((EN (x_168 * g.Width)) + x_253))) fun w293 => (
 bdO (some [A3.mk w293 (EN (w293 + 1)) (EN ((EN (w293 + g.Width)) + 1)), A3.mk w293 (EN ((EN (w293 + g.Width)) + 1)) (EN (w293 + g.Width))]) fun w295 => (
 bdO (aL (α := Bool × Int) (β := Bool) n (fun again311 (c_297, x_298) => (
 cdO (decide (x_298 < 2)) (
 gdO (inR x_298 w295.length) (
 gdO (inR (gt w295 x_298).e0 g.Z.length) (
 cdO (((gt g.Z (gt w295 x_298).e0) : Int) != (-2147483648)) (
 gdO (inR (gt w295 x_298).e1 g.Z.length) (
 cdO (((gt g.Z (gt w295 x_298).e1) : Int) != (-2147483648)) (
 gdO (inR (gt w295 x_298).e2 g.Z.length) (
 cdO (((gt g.Z (gt w295 x_298).e2) : Int) != (-2147483648)) (
 bdO (fh n (gt w295 x_298) c_297 c' c'') fun v321 => (
 again311 (v321, EN (x_298 + 1))
 )
 ) (
 again311 (c_297, EN (x_298 + 1))
 )
 )
 ) (
 again311 (c_297, EN (x_298 + 1))
 )
 )
 ) (
 again311 (c_297, EN (x_298 + 1))
 )
 )
 )
 ) (
 some (c_297)
 )
 )) (c_252, 0)) fun c_310 => (
 again290 (c_310, EN (x_253 + 1))
 )
 )
 )
 ) (
 some (c_252)
 )
 )) (c_167, 0)) fun c_289 => (
 again249 (c_289, EN (x_168 + 1))
 )
 ) (
 some (c_167)
 )
 )) (c, 0)) fun c_248 => (
 some (c_248)
 )

def jK (n : Nat) (g : ar) (a : Int) (b : Int) : Option (Bool) :=
 cdO (decide (a < 0)) (
 some (false)
 ) (
 cdO (decide (a >= b)) (
 some (false)
 ) (
 cdO (decide (b >= (g.Z.length : Int))) (
 some (false)
 ) (
 bdO (cH n g false a b) fun v4 => (
 some (v4)
 )
 )
 )
 )

def eH (n : Nat) (x' : ak) (y : ak) : Option (Int) :=
 bdO (cl n x') fun v1 => (
 bdO (cl n y) fun v3 => (
 bdO (dK n v1.Num v3.Den) fun v5 => (
 bdO (dK n v3.Num v1.Den) fun v7 => (
 bdO (fc n v5 v7) fun v9 => (
 some (v9)
 )
 )
 )
 )
 )

def dN (n : Nat) (a : Int) (b : Int) (p : Int) (p' : Int) (p'' : Bool) (A8 : List Int) (xQ : Bool) (lF : List Int) : Option (ak) :=
 bdO (bm n a) fun v1 => (
 bdO (bm n (EN (b - a))) fun v3 => (
 bdO (dm n (ak.mk (ai.mk p'' A8) (ai.mk xQ lF)) v3) fun v5 => (
 bdO (fw n v1 v5) fun v7 => (
 some (v7)
 )
 )
 )
 )

def eM (n : Nat) (g : ar) (c : al) : Option (an × Int) :=
 bdO (jK n g c.A c.B) fun v1 => (
 cdO (!v1) (
 some ((an.mk (ak.mk (ai.mk false []) (ai.mk false [])) (ak.mk (ai.mk false []) (ai.mk false [])), 6))
 ) (
 bdO (cS n c.At) fun v5 => (
 cdO (!v5) (
 some ((an.mk (ak.mk (ai.mk false []) (ai.mk false [])) (ak.mk (ai.mk false []) (ai.mk false [])), 1))
 ) (
 bdO (α := Bool) (
 bdO (bM n c.At) fun v12 => (
 cdO (decide (v12 < 0)) (
 some (true)
 ) (
 bdO (bm n 1) fun v15 => (
 bdO (eH n c.At v15) fun v17 => (
 some (decide (v17 > 0))
 )
 )
 )
 )
 ) fun x_11 => (
 cdO x_11 (
 some ((an.mk (ak.mk (ai.mk false []) (ai.mk false [])) (ak.mk (ai.mk false []) (ai.mk false [])), 2))
 ) (
 gdO (!decide (g.Width = 0)) (
 bdO (dN n (EN (g.X0 + (EN ((c.A.tmod g.Width) * g.Step)))) (EN (g.X0 + (EN ((c.B.tmod g.Width) * g.Step)))) c.A c.B c.At.Num.Negative c.At.Num.Groups c.At.Den.Negative c.At.Den.Groups) fun v25 => (
 bdO (dN n (EN (g.Y0 + (EN ((EN (c.A.tdiv g.Width)) * g.Step)))) (EN (g.Y0 + (EN ((EN (c.B.tdiv g.Width)) * g.Step)))) c.A c.B c.At.Num.Negative c.At.Num.Groups c.At.Den.Negative c.At.Den.Groups) fun v27 => (
 some ((an.mk v25 v27, 0))
 )
 )
 )
 )
 )
 )
 )
 )
 )

def fB (n : Nat) (g : ar) (c : ae) : Option (List an × Int) :=
 bdO (aL (α := List an × Int) (β := Sum (List an) (List an × Int)) n (fun again12 (o_1, x_2) => (
 cdO (decide (x_2 < (c.Points.length : Int))) (
 gdO (inR x_2 c.Points.length) (
 bdO (eM n g (gt c.Points x_2)) fun v16 => (
 cdO ((v16.2 : Int) != 0) (
 some (Sum.inr (([], v16.2)))
 ) (
 gdO (decide ((o_1.length + 1) * 128 <= 140737488355328)) (
 gdO (decide (o_1.length + 1 <= 4611686018427387904)) (
 again12 (o_1 ++ [v16.1], EN (x_2 + 1))
 )
 )
 )
 )
 )
 ) (
 some (Sum.inl o_1)
 )
 )) ([], 0)) fun o21 => (
 match o21 with
 | .inl o_11 => (
 some ((o_11, 0))
 )
 | .inr (r0) => (
 some r0
 ))

def fM (n : Nat) (polygon : List an) (o : an) : Option (Int × Bool) :=
 bdO (aL (α := Int × Int) (β := Sum (Int) (Int × Bool)) n (fun again52 (n_1, x_2) => (
 cdO (decide (x_2 < (polygon.length : Int))) (
 gdO (inR x_2 polygon.length) (
 gdO (!decide ((polygon.length : Int) = 0)) (
 gdO (inR ((EN (x_2 + 1)).tmod (polygon.length : Int)) polygon.length) (
 bdO (dw n (gt polygon x_2).X o.X) fun v58 => (
 bdO (dw n (gt polygon x_2).Y o.Y) fun v60 => (
 bdO (dw n (gt polygon ((EN (x_2 + 1)).tmod (polygon.length : Int))).X o.X) fun v62 => (
 bdO (dw n (gt polygon ((EN (x_2 + 1)).tmod (polygon.length : Int))).Y o.Y) fun v64 => (
 bdO (dm n v58 v64) fun v66 => (
 bdO (dm n v60 v62) fun v68 => (
 bdO (dw n v66 v68) fun v70 => (
 bdO (bM n v70) fun v72 => (
 bdO (α := Sum (Unit) (Int × Bool)) (
 cdO ((v72 : Int) == 0) (
 bdO (dm n v58 v62) fun v75 => (
 bdO (dm n v60 v64) fun v77 => (
 bdO (fw n v75 v77) fun v79 => (
 bdO (bM n v79) fun v81 => (
 cdO (decide (v81 <= 0)) (
 some (Sum.inr ((0, true)))
 ) (
 some (Sum.inl ())
 )
 )
 )
 )
 )
 ) (
 some (Sum.inl ())
 )
 ) fun o84 => (
 match o84 with
 | .inl _ => (
 bdO (bM n v60) fun v87 => (
 bdO (bM n v64) fun v89 => (
 bdO (α := Bool) (
 cdO (decide (v87 <= 0)) (
 cdO (!(decide (v89 <= 0))) (
 some (decide (v72 > 0))
 ) (
 some (false)
 )
 ) (
 some (false)
 )
 ) fun x_91 => (
 cdO x_91 (
 again52 (EN (n_1 + 1), EN (x_2 + 1))
 ) (
 cdO (!(decide (v87 <= 0))) (
 cdO (decide (v89 <= 0)) (
 cdO (decide (v72 < 0)) (
 again52 (EN (n_1 - 1), EN (x_2 + 1))
 ) (
 again52 (n_1, EN (x_2 + 1))
 )
 ) (
 again52 (n_1, EN (x_2 + 1))
 )
 ) (
 again52 (n_1, EN (x_2 + 1))
 )
 )
 )
 )
 )
 )
 | .inr (r0) => (
 some (Sum.inr (r0))
 ))
 )
 )
 )
 )
 )
 )
 )
 )
 )
 )
 )
 ) (
 some (Sum.inl n_1)
 )
 )) (0, 0)) fun o101 => (
 match o101 with
 | .inl n_51 => (
 some ((n_51, false))
 )
 | .inr (r0) => (
 some r0
 ))

def eL (n : Nat) (g : ar) (l : ae) (i : Int) (j : Int) : Option (Int × Int) :=
 bdO (je n g) fun v1 => (
 cdO ((v1 : Int) != 0) (
 some ((0, v1))
 ) (
 bdO (α := Bool) (
 cdO (decide (i < 0)) (
 some (true)
 ) (
 cdO (decide (i >= g.Width)) (
 some (true)
 ) (
 cdO (decide (j < 0)) (
 some (true)
 ) (
 some (decide (j >= g.Height))
 )
 )
 )
 ) fun x_5 => (
 cdO x_5 (
 some ((0, 2))
 ) (
 cdO (!l.Closed) (
 some ((0, 11))
 ) (
 bdO (fB n g l) fun v16 => (
 cdO ((v16.2 : Int) != 0) (
 some ((0, v16.2))
 ) (
 bdO (bm n (EN (g.X0 + (EN (i * g.Step))))) fun v20 => (
 bdO (bm n (EN (g.Y0 + (EN (j * g.Step))))) fun v22 => (
 bdO (fM n v16.1 (an.mk v20 v22)) fun v24 => (
 cdO v24.2 (
 some ((0, 13))
 ) (
 cdO (((v16.1.length : Int) : Int) == 0) (
 some ((0, 13))
 ) (
 some ((v24.1, 0))
 )
 )
 )
 )
 )
 )
 )
 )
 )
 )
 )
 )

def aU (n : Nat) (negative : Bool) (l : List Int) : Option (ai) :=
 bdO (aL (α := Int) (β := Int) n (fun again6 n_1 => (
 cdO (decide (n_1 > 0)) (
 gdO (inR (EN (n_1 - 1)) l.length) (
 cdO (((gt l (EN (n_1 - 1))) : Int) == 0) (
 again6 (EN (n_1 - 1))
 ) (
 some (n_1)
 )
 )
 ) (
 some (n_1)
 )
 )) (l.length : Int)) fun n_5 => (
 cdO negative (
 gdO (inS 0 n_5 l.length) (
 gdO (decide ((0 + ((l.drop (0 : Int).toNat).take (n_5.toNat - (0 : Int).toNat)).length) * 4 <= 140737488355328)) (
 gdO (decide (0 + ((l.drop (0 : Int).toNat).take (n_5.toNat - (0 : Int).toNat)).length <= 4611686018427387904)) (
 some (ai.mk (decide (n_5 > 0)) ((l.drop (0 : Int).toNat).take (n_5.toNat - (0 : Int).toNat)))
 )
 )
 )
 ) (
 gdO (inS 0 n_5 l.length) (
 gdO (decide ((0 + ((l.drop (0 : Int).toNat).take (n_5.toNat - (0 : Int).toNat)).length) * 4 <= 140737488355328)) (
 gdO (decide (0 + ((l.drop (0 : Int).toNat).take (n_5.toNat - (0 : Int).toNat)).length <= 4611686018427387904)) (
 some (ai.mk false ((l.drop (0 : Int).toNat).take (n_5.toNat - (0 : Int).toNat)))
 )
 )
 )
 )
 )

def gi (n : Nat) (n' : Int) : Option (ai) :=
 cdO (decide (n' < 0)) (
 bdO (aL (α := Int × List Int) (β := List Int) n (fun again8 (u_2, l_3) => (
 cdO (decide (u_2 > 0)) (
 gdO (decide ((l_3.length + 1) * 4 <= 140737488355328)) (
 gdO (decide (l_3.length + 1 <= 4611686018427387904)) (
 again8 (aa .u64 (u_2.tdiv 1000000000), l_3 ++ [aa .u32 (u_2.tmod 1000000000)])
 )
 )
 ) (
 some (l_3)
 )
 )) (aa .u64 ((aa .u64 (EN (0 - (EN (n' + 1))))) + 1), [])) fun l_7 => (
 bdO (aU n true l_7) fun v15 => (
 some (v15)
 )
 )
 ) (
 bdO (aL (α := Int × List Int) (β := List Int) n (fun again23 (u_17, l_18) => (
 cdO (decide (u_17 > 0)) (
 gdO (decide ((l_18.length + 1) * 4 <= 140737488355328)) (
 gdO (decide (l_18.length + 1 <= 4611686018427387904)) (
 again23 (aa .u64 (u_17.tdiv 1000000000), l_18 ++ [aa .u32 (u_17.tmod 1000000000)])
 )
 )
 ) (
 some (l_18)
 )
 )) (aa .u64 n', [])) fun l_22 => (
 bdO (aU n false l_22) fun v30 => (
 some (v30)
 )
 )
 )

def bV (n : Nat) (n' : Int) : Option (ai) :=
 bdO (gi n n') fun v1 => (
 some (v1)
 )

def ck (n : Nat) (x' : ai) : Option (Bool) :=
 bdO (aL (α := Int) (β := Sum (Unit) (Bool)) n (fun again5 i_1 => (
 cdO (decide (i_1 < (x'.Groups.length : Int))) (
 gdO (inR i_1 x'.Groups.length) (
 cdO (decide ((gt x'.Groups i_1) >= 1000000000)) (
 some (Sum.inr (false))
 ) (
 again5 (EN (i_1 + 1))
 )
 )
 ) (
 some (Sum.inl ())
 )
 )) 0) fun o9 => (
 match o9 with
 | .inl _ => (
 cdO (((x'.Groups.length : Int) : Int) == 0) (
 some (!x'.Negative)
 ) (
 gdO (inR (EN ((x'.Groups.length : Int) - 1)) x'.Groups.length) (
 some (((gt x'.Groups (EN ((x'.Groups.length : Int) - 1))) : Int) != 0)
 )
 )
 )
 | .inr (r0) => (
 some r0
 ))

def ba (n : Nat) (x' : ai) : Option (ai) :=
 bdO (ck n x') fun v1 => (
 cdO (!v1) (
 some (ai.mk false [])
 ) (
 gdO (decide ((0 + x'.Groups.length) * 4 <= 140737488355328)) (
 gdO (decide (0 + x'.Groups.length <= 4611686018427387904)) (
 some (x')
 )
 )
 )
 )

def cf (n : Nat) (x' : ai) : Option (Int) :=
 bdO (ba n x') fun v1 => (
 cdO (((v1.Groups.length : Int) : Int) == 0) (
 some (0)
 ) (
 cdO v1.Negative (
 some ((-1))
 ) (
 some (1)
 )
 )
 )

def eY (n : Nat) (a : List Int) (d : Int) : Option (List Int × Int) :=
 gdO (decide (0 <= (a.length : Int))) (
 gdO (decide ((4 : Int) * (a.length : Int) <= 281474976710656)) (
 gdO (decide ((a.length : Int) <= 9223372036854775807)) (
 bdO (aL (α := List Int × Int × Int) (β := List Int × Int) n (fun again13 (q_4, r_5, i_6) => (
 cdO (decide (i_6 >= 0)) (
 gdO (inR i_6 a.length) (
 gdO (!decide (d = 0)) (
 gdO (inR i_6 q_4.length) (
 again13 (q_4.set i_6.toNat (aa .u32 (aa .u64 ((aa .u64 ((aa .u64 (r_5 * 1000000000)) + (aa .u64 (gt a i_6)))).tdiv d))), (aa .u64 ((aa .u64 (r_5 * 1000000000)) + (aa .u64 (gt a i_6)))).tmod d, EN (i_6 - 1))
 )
 )
 )
 ) (
 some ((q_4, r_5))
 )
 )) (List.replicate (a.length : Int).toNat ((0 : Int) : Int), 0, EN ((a.length : Int) - 1))) fun o18 => (
 match o18 with
 | (q_11, r_12) => (
 bdO (aU n false q_11) fun v21 => (
 some ((v21.Groups, r_12))
 )
 ))
 )
 )
 )

def c6 (n : Nat) (a : List Int) (b : List Int) : Option (Int) :=
 cdO (((a.length : Int) : Int) != (b.length : Int)) (
 cdO (decide ((a.length : Int) < (b.length : Int))) (
 some ((-1))
 ) (
 some (1)
 )
 ) (
 bdO (aL (α := Int) (β := Sum (Unit) (Int)) n (fun again9 i_3 => (
 cdO (decide (i_3 >= 0)) (
 gdO (inR i_3 a.length) (
 gdO (inR i_3 b.length) (
 cdO (decide ((gt a i_3) < (gt b i_3))) (
 some (Sum.inr ((-1)))
 ) (
 cdO (decide ((gt a i_3) > (gt b i_3))) (
 some (Sum.inr (1))
 ) (
 again9 (EN (i_3 - 1))
 )
 )
 )
 )
 ) (
 some (Sum.inl ())
 )
 )) (EN ((a.length : Int) - 1))) fun o15 => (
 match o15 with
 | .inl _ => (
 some (0)
 )
 | .inr (r0) => (
 some r0
 ))
 )

def ct (n : Nat) (a : List Int) (d : Int) : Option (List Int) :=
 bdO (aL (α := List Int × Int × Int) (β := List Int × Int) n (fun again10 (o_1, c_2, i_3) => (
 cdO (decide (i_3 < (a.length : Int))) (
 gdO (inR i_3 a.length) (
 gdO (decide ((o_1.length + 1) * 4 <= 140737488355328)) (
 gdO (decide (o_1.length + 1 <= 4611686018427387904)) (
 again10 (o_1 ++ [aa .u32 ((aa .u64 ((aa .u64 ((aa .u64 (gt a i_3)) * d)) + c_2)).tmod 1000000000)], aa .u64 ((aa .u64 ((aa .u64 ((aa .u64 (gt a i_3)) * d)) + c_2)).tdiv 1000000000), EN (i_3 + 1))
 )
 )
 )
 ) (
 some ((o_1, c_2))
 )
 )) ([], 0, 0)) fun o15 => (
 match o15 with
 | (o_8, c_9) => (
 gdO (decide ((o_8.length + 1) * 4 <= 140737488355328)) (
 gdO (decide (o_8.length + 1 <= 4611686018427387904)) (
 bdO (aU n false (o_8 ++ [aa .u32 c_9])) fun v20 => (
 some (v20.Groups)
 )
 )
 )
 ))

def dZ (n : Nat) (a : List Int) (d : Int) : Option (List Int) :=
 gdO (decide ((1 + a.length) * 4 <= 140737488355328)) (
 gdO (decide (1 + a.length <= 4611686018427387904)) (
 bdO (aU n false ([d] ++ a)) fun v3 => (
 some (v3.Groups)
 )
 )
 )

def aY (n : Nat) (l : List Int) (i : Int) : Option (Int) :=
 cdO (decide (i < (l.length : Int))) (
 gdO (inR i l.length) (
 some (aa .u64 (gt l i))
 )
 ) (
 some (0)
 )

def cn (n : Nat) (a : List Int) (b : List Int) : Option (List Int) :=
 bdO (aL (α := List Int × Int × Int) (β := List Int) n (fun again12 (o_1, b_2, i_3) => (
 cdO (decide (i_3 < (a.length : Int))) (
 bdO (aY n a i_3) fun v14 => (
 bdO (aY n b i_3) fun v16 => (
 gdO (decide ((o_1.length + 1) * 4 <= 140737488355328)) (
 gdO (decide (o_1.length + 1 <= 4611686018427387904)) (
 again12 (o_1 ++ [aa .u32 ((aa .u64 ((aa .u64 ((aa .u64 (1000000000 + v14)) - v16)) - b_2)).tmod 1000000000)], aa .u64 (1 - (aa .u64 ((aa .u64 ((aa .u64 ((aa .u64 (1000000000 + v14)) - v16)) - b_2)).tdiv 1000000000))), EN (i_3 + 1))
 )
 )
 )
 )
 ) (
 some (o_1)
 )
 )) ([], 0, 0)) fun o_11 => (
 bdO (aU n false o_11) fun v23 => (
 some (v23.Groups)
 )
 )

def dh (n : Nat) (a : List Int) (b : List Int) : Option (List Int × List Int) :=
 cdO (((b.length : Int) : Int) == 1) (
 gdO (inR 0 b.length) (
 bdO (eY n a (aa .u64 (gt b 0))) fun v3 => (
 bdO (aU n false [(aa .u32 v3.2)]) fun v5 => (
 some ((v3.1, v5.Groups))
 )
 )
 )
 ) (
 bdO (c6 n a b) fun v7 => (
 cdO (decide (v7 < 0)) (
 some (([], a))
 ) (
 gdO (inR (EN ((b.length : Int) - 1)) b.length) (
 gdO (!decide (aa .u64 ((aa .u64 (gt b (EN ((b.length : Int) - 1)))) + 1) = 0)) (
 bdO (ct n a (aa .u64 ((1000000000 : Int).tdiv (aa .u64 ((aa .u64 (gt b (EN ((b.length : Int) - 1)))) + 1))))) fun v12 => (
 bdO (ct n b (aa .u64 ((1000000000 : Int).tdiv (aa .u64 ((aa .u64 (gt b (EN ((b.length : Int) - 1)))) + 1))))) fun v14 => (
 gdO (inS (EN ((EN ((v12.length : Int) - (b.length : Int))) + 1)) (v12.length : Int) v12.length) (
 bdO (aU n false ((v12.drop (EN ((EN ((v12.length : Int) - (b.length : Int))) + 1)).toNat).take ((v12.length : Int).toNat - (EN ((EN ((v12.length : Int) - (b.length : Int))) + 1)).toNat))) fun v17 => (
 gdO (decide (0 <= EN ((EN ((v12.length : Int) - (b.length : Int))) + 1))) (
 gdO (decide ((4 : Int) * (EN ((EN ((v12.length : Int) - (b.length : Int))) + 1)) <= 281474976710656)) (
 gdO (decide (EN ((EN ((v12.length : Int) - (b.length : Int))) + 1) <= 9223372036854775807)) (
 bdO (aL (α := List Int × List Int × Int) (β := List Int × List Int) n (fun again60 (r_22, q_23, i_24) => (
 cdO (decide (i_24 >= 0)) (
 gdO (inR i_24 v12.length) (
 bdO (dZ n r_22 (gt v12 i_24)) fun v63 => (
 bdO (aY n v63 (b.length : Int)) fun v65 => (
 bdO (aY n v63 (EN ((b.length : Int) - 1))) fun v67 => (
 gdO (inR (EN ((b.length : Int) - 1)) v14.length) (
 gdO (!decide (aa .u64 ((aa .u64 (gt v14 (EN ((b.length : Int) - 1)))) + 1) = 0)) (
 bdO (ct n v14 (aa .u64 ((aa .u64 ((aa .u64 (v65 * 1000000000)) + v67)).tdiv (aa .u64 ((aa .u64 (gt v14 (EN ((b.length : Int) - 1)))) + 1))))) fun v71 => (
 bdO (cn n v63 v71) fun v73 => (
 bdO (aL (α := List Int × Int) (β := List Int × Int) n (fun again84 (r_75, g_76) => (
 bdO (c6 n r_75 v14) fun v85 => (
 cdO (decide (v85 >= 0)) (
 bdO (cn n r_75 v14) fun v88 => (
 again84 (v88, aa .u64 (g_76 + 1))
 )
 ) (
 some ((r_75, g_76))
 )
 )
 )) (v73, aa .u64 ((aa .u64 ((aa .u64 (v65 * 1000000000)) + v67)).tdiv (aa .u64 ((aa .u64 (gt v14 (EN ((b.length : Int) - 1)))) + 1))))) fun o90 => (
 match o90 with
 | (r_82, g_83) => (
 gdO (inR i_24 q_23.length) (
 again60 (r_82, q_23.set i_24.toNat (aa .u32 g_83), EN (i_24 - 1))
 )
 ))
 )
 )
 )
 )
 )
 )
 )
 )
 ) (
 some ((r_22, q_23))
 )
 )) (v17.Groups, List.replicate (EN ((EN ((v12.length : Int) - (b.length : Int))) + 1)).toNat ((0 : Int) : Int), EN ((v12.length : Int) - (b.length : Int)))) fun o94 => (
 match o94 with
 | (r_58, q_59) => (
 bdO (eY n r_58 (aa .u64 ((1000000000 : Int).tdiv (aa .u64 ((aa .u64 (gt b (EN ((b.length : Int) - 1)))) + 1))))) fun v97 => (
 bdO (aU n false q_59) fun v99 => (
 some ((v99.Groups, v97.1))
 )
 )
 ))
 )
 )
 )
 )
 )
 )
 )
 )
 )
 )
 )
 )

def dJ (n : Nat) (a : List Int) : Option (Int) :=
 bdO (aY n a 1) fun v1 => (
 bdO (aY n a 0) fun v3 => (
 some (aa .u64 ((aa .u64 (v1 * 1000000000)) + v3))
 )
 )

def eN (n : Nat) (x' : ai) (y : ai) : Option (ai) :=
 bdO (ba n x') fun v1 => (
 bdO (ba n y) fun v3 => (
 bdO (aL (α := List Int × List Int) (β := List Int × List Int) n (fun again16 (a_5, b_6) => (
 cdO (decide ((b_6.length : Int) > 0)) (
 cdO (decide ((a_5.length : Int) > 2)) (
 bdO (dh n a_5 b_6) fun v19 => (
 again16 (b_6, v19.2)
 )
 ) (
 cdO (decide ((b_6.length : Int) > 2)) (
 bdO (dh n a_5 b_6) fun v22 => (
 again16 (b_6, v22.2)
 )
 ) (
 some ((a_5, b_6))
 )
 )
 ) (
 some ((a_5, b_6))
 )
 )) (v1.Groups, v3.Groups)) fun o24 => (
 match o24 with
 | (a_14, b_15) => (
 cdO (((b_15.length : Int) : Int) == 0) (
 bdO (aU n false a_14) fun v28 => (
 some (v28)
 )
 ) (
 bdO (dJ n a_14) fun v30 => (
 bdO (dJ n b_15) fun v32 => (
 bdO (aL (α := Int × Int) (β := Int) n (fun again39 (u_34, v_35) => (
 cdO (decide (v_35 > 0)) (
 gdO (!decide (v_35 = 0)) (
 again39 (v_35, u_34.tmod v_35)
 )
 ) (
 some (u_34)
 )
 )) (v30, v32)) fun u_38 => (
 bdO (aU n false [(aa .u32 (u_38.tmod 1000000000)), (aa .u32 (aa .u64 (u_38.tdiv 1000000000)))]) fun v45 => (
 some (v45)
 )
 )
 )
 )
 )
 ))
 )
 )

def eW (n : Nat) (x' : ai) : Option (ai) :=
 bdO (ba n x') fun v1 => (
 bdO (aU n (!v1.Negative) v1.Groups) fun v3 => (
 some (v3)
 )
 )

def gk (n : Nat) (a : List Int) (b : List Int) : Option (List Int) :=
 bdO (aL (α := List Int × Int × Int) (β := List Int × Int) n (fun again20 (o_1, c_2, i_3) => (
 cdO (decide (i_3 < (a.length : Int))) (
 bdO (aY n a i_3) fun v22 => (
 bdO (aY n b i_3) fun v24 => (
 gdO (decide ((o_1.length + 1) * 4 <= 140737488355328)) (
 gdO (decide (o_1.length + 1 <= 4611686018427387904)) (
 again20 (o_1 ++ [aa .u32 ((aa .u64 ((aa .u64 (v22 + v24)) + c_2)).tmod 1000000000)], aa .u64 ((aa .u64 ((aa .u64 (v22 + v24)) + c_2)).tdiv 1000000000), EN (i_3 + 1))
 )
 )
 )
 )
 ) (
 cdO (decide (i_3 < (b.length : Int))) (
 bdO (aY n a i_3) fun v29 => (
 bdO (aY n b i_3) fun v31 => (
 gdO (decide ((o_1.length + 1) * 4 <= 140737488355328)) (
 gdO (decide (o_1.length + 1 <= 4611686018427387904)) (
 again20 (o_1 ++ [aa .u32 ((aa .u64 ((aa .u64 (v29 + v31)) + c_2)).tmod 1000000000)], aa .u64 ((aa .u64 ((aa .u64 (v29 + v31)) + c_2)).tdiv 1000000000), EN (i_3 + 1))
 )
 )
 )
 )
 ) (
 some ((o_1, c_2))
 )
 )
 )) ([], 0, 0)) fun o35 => (
 match o35 with
 | (o_18, c_19) => (
 gdO (decide ((o_18.length + 1) * 4 <= 140737488355328)) (
 gdO (decide (o_18.length + 1 <= 4611686018427387904)) (
 bdO (aU n false (o_18 ++ [aa .u32 c_19])) fun v40 => (
 some (v40.Groups)
 )
 )
 )
 ))

def fI (n : Nat) (x' : ai) (y : ai) : Option (ai) :=
 bdO (ba n x') fun v1 => (
 bdO (ba n y) fun v3 => (
 cdO (v1.Negative == v3.Negative) (
 bdO (gk n v1.Groups v3.Groups) fun v6 => (
 bdO (aU n v1.Negative v6) fun v8 => (
 some (v8)
 )
 )
 ) (
 bdO (c6 n v1.Groups v3.Groups) fun v10 => (
 cdO (decide (v10 >= 0)) (
 bdO (cn n v1.Groups v3.Groups) fun v13 => (
 bdO (aU n v1.Negative v13) fun v15 => (
 some (v15)
 )
 )
 ) (
 bdO (cn n v3.Groups v1.Groups) fun v17 => (
 bdO (aU n v3.Negative v17) fun v19 => (
 some (v19)
 )
 )
 )
 )
 )
 )
 )

def cW (n : Nat) (x' : ai) (y : ai) : Option (ai) :=
 bdO (eW n y) fun v1 => (
 bdO (fI n x' v1) fun v3 => (
 some (v3)
 )
 )

def bI (n : Nat) (x' : ai) (y : ai) : Option (ai) :=
 bdO (ba n x') fun v1 => (
 bdO (ba n y) fun v3 => (
 gdO (decide (0 <= EN ((v1.Groups.length : Int) + (v3.Groups.length : Int)))) (
 gdO (decide ((4 : Int) * (EN ((v1.Groups.length : Int) + (v3.Groups.length : Int))) <= 281474976710656)) (
 gdO (decide (EN ((v1.Groups.length : Int) + (v3.Groups.length : Int)) <= 9223372036854775807)) (
 bdO (aL (α := List Int × Int) (β := List Int) n (fun again30 (o_8, i_9) => (
 cdO (decide (i_9 < (v1.Groups.length : Int))) (
 bdO (aL (α := List Int × Int × Int) (β := List Int × Int) n (fun again41 (o_32, c_33, j_34) => (
 cdO (decide (j_34 < (v3.Groups.length : Int))) (
 gdO (inR (EN (i_9 + j_34)) o_32.length) (
 gdO (inR i_9 v1.Groups.length) (
 gdO (inR j_34 v3.Groups.length) (
 again41 (o_32.set (EN (i_9 + j_34)).toNat (aa .u32 ((aa .u64 ((aa .u64 ((aa .u64 (gt o_32 (EN (i_9 + j_34)))) + (aa .u64 ((aa .u64 (gt v1.Groups i_9)) * (aa .u64 (gt v3.Groups j_34)))))) + c_33)).tmod 1000000000)), aa .u64 ((aa .u64 ((aa .u64 ((aa .u64 (gt o_32 (EN (i_9 + j_34)))) + (aa .u64 ((aa .u64 (gt v1.Groups i_9)) * (aa .u64 (gt v3.Groups j_34)))))) + c_33)).tdiv 1000000000), EN (j_34 + 1))
 )
 )
 )
 ) (
 some ((o_32, c_33))
 )
 )) (o_8, 0, 0)) fun o46 => (
 match o46 with
 | (o_39, c_40) => (
 gdO (inR (EN (i_9 + (v3.Groups.length : Int))) o_39.length) (
 again30 (o_39.set (EN (i_9 + (v3.Groups.length : Int))).toNat (aa .u32 c_40), EN (i_9 + 1))
 )
 ))
 ) (
 some (o_8)
 )
 )) (List.replicate (EN ((v1.Groups.length : Int) + (v3.Groups.length : Int))).toNat ((0 : Int) : Int), 0)) fun o_29 => (
 bdO (aU n (v1.Negative != v3.Negative) o_29) fun v53 => (
 some (v53)
 )
 )
 )
 )
 )
 )
 )

def cZ (n : Nat) (x' : ai) (y : ai) : Option (ai × ai × Int) :=
 bdO (ba n x') fun v1 => (
 bdO (ba n y) fun v3 => (
 cdO (((v3.Groups.length : Int) : Int) == 0) (
 some ((ai.mk false [], ai.mk false [], 14))
 ) (
 bdO (dh n v1.Groups v3.Groups) fun v6 => (
 bdO (aU n (v1.Negative != v3.Negative) v6.1) fun v8 => (
 cdO (v1.Negative != v3.Negative) (
 cdO (decide ((v6.2.length : Int) > 0)) (
 bdO (gi n 1) fun v12 => (
 bdO (cW n v8 v12) fun v14 => (
 bdO (bI n v14 v3) fun v16 => (
 bdO (cW n v1 v16) fun v18 => (
 some ((v14, v18, 0))
 )
 )
 )
 )
 ) (
 bdO (bI n v8 v3) fun v20 => (
 bdO (cW n v1 v20) fun v22 => (
 some ((v8, v22, 0))
 )
 )
 )
 ) (
 bdO (bI n v8 v3) fun v24 => (
 bdO (cW n v1 v24) fun v26 => (
 some ((v8, v26, 0))
 )
 )
 )
 )
 )
 )
 )
 )

def dk (n : Nat) (num : ai) (den : ai) : Option (ak) :=
 bdO (eN n num den) fun v1 => (
 bdO (cf n den) fun v3 => (
 cdO (decide (v3 < 0)) (
 bdO (eW n v1) fun v6 => (
 bdO (cZ n num v6) fun v8 => (
 bdO (cZ n den v6) fun v10 => (
 some (ak.mk v8.1 v10.1)
 )
 )
 )
 ) (
 bdO (cZ n num v1) fun v12 => (
 bdO (cZ n den v1) fun v14 => (
 some (ak.mk v12.1 v14.1)
 )
 )
 )
 )
 )

def kF (n : Nat) (num : ai) (den : ai) : Option (ak × Int) :=
 bdO (cf n den) fun v1 => (
 cdO ((v1 : Int) == 0) (
 some ((ak.mk (ai.mk false []) (ai.mk false []), 14))
 ) (
 bdO (dk n num den) fun v4 => (
 some ((v4, 0))
 )
 )
 )

def lR (n : Nat) (n' : Int) (d : Int) : Option (ak × Int) :=
 bdO (bV n n') fun v1 => (
 bdO (bV n d) fun v3 => (
 bdO (kF n v1 v3) fun v5 => (
 some ((v5.1, v5.2))
 )
 )
 )

def dj (n : Nat) (x' : ai) (y : ai) : Option (Int) :=
 bdO (cW n x' y) fun v1 => (
 bdO (cf n v1) fun v3 => (
 some (v3)
 )
 )

def bu (n : Nat) (x' : ak) : Option (Bool) :=
 bdO (ck n x'.Num) fun v1 => (
 cdO (!v1) (
 some (false)
 ) (
 bdO (ck n x'.Den) fun v4 => (
 cdO (!v4) (
 some (false)
 ) (
 bdO (cf n x'.Den) fun v7 => (
 cdO (decide (v7 <= 0)) (
 some (false)
 ) (
 bdO (eN n x'.Num x'.Den) fun v10 => (
 bdO (bV n 1) fun v12 => (
 bdO (dj n v10 v12) fun v14 => (
 some ((v14 : Int) == 0)
 )
 )
 )
 )
 )
 )
 )
 )
 )

def bJ (n : Nat) (n' : Int) : Option (ak) :=
 bdO (bV n n') fun v1 => (
 bdO (bV n 1) fun v3 => (
 some (ak.mk v1 v3)
 )
 )

def cG (n : Nat) (x' : ak) : Option (ak) :=
 bdO (bu n x') fun v1 => (
 cdO v1 (
 some (x')
 ) (
 bdO (bJ n 0) fun v4 => (
 some (v4)
 )
 )
 )

def g9 (n : Nat) (x' : ak) : Option (ak) :=
 bdO (cG n x') fun v1 => (
 bdO (eW n v1.Num) fun v3 => (
 some (ak.mk v3 v1.Den)
 )
 )

def bP (n : Nat) (x' : ak) (y : ak) : Option (ak) :=
 bdO (cG n x') fun v1 => (
 bdO (cG n y) fun v3 => (
 bdO (bI n v1.Num v3.Den) fun v5 => (
 bdO (bI n v3.Num v1.Den) fun v7 => (
 bdO (fI n v5 v7) fun v9 => (
 bdO (bI n v1.Den v3.Den) fun v11 => (
 bdO (dk n v9 v11) fun v13 => (
 some (v13)
 )
 )
 )
 )
 )
 )
 )

def bf (n : Nat) (x' : ak) (y : ak) : Option (ak) :=
 bdO (g9 n y) fun v1 => (
 bdO (bP n x' v1) fun v3 => (
 some (v3)
 )
 )

def cJ (n : Nat) (x' : ak) : Option (Int) :=
 bdO (cG n x') fun v1 => (
 bdO (cf n v1.Num) fun v3 => (
 some (v3)
 )
 )

def aS (n : Nat) (x' : ak) (y : ak) : Option (Int) :=
 bdO (bf n x' y) fun v1 => (
 bdO (cJ n v1) fun v3 => (
 some (v3)
 )
 )

def km (n : Nat) (x' : ak) (y : ak) : Option (Bool) :=
 bdO (bu n x') fun v1 => (
 cdO v1 (
 bdO (bu n y) fun v4 => (
 cdO v4 (
 bdO (aS n x' y) fun v7 => (
 some ((v7 : Int) == 0)
 )
 ) (
 some (false)
 )
 )
 ) (
 some (false)
 )
 )

def b7 (n : Nat) (n' : Int) : Option (List al) :=
 gdO (!(decide (n' < 0))) (
 cdO (decide ((EN (n' - 0)) > 0)) (
 gdO (decide (0 < (EN (n' - 0)))) (
 gdO (decide ((EN (n' - 0)) <= 4611686018427387904)) (
 gdO (decide ((EN (n' - 0)).toNat * 80 <= 140737488355328)) (
 gdO (inS 0 0 (EN (n' - 0)).toNat) (
 some (([] : List al))
 )
 )
 )
 )
 ) (
 some ([])
 )
 )

def bZ (n : Nat) (slices : List (List al)) : Option (List al) :=
 bdO (aL (α := Int × Int) (β := Int) n (fun again7 (s_1, x_2) => (
 cdO (decide (x_2 < (slices.length : Int))) (
 gdO (inR x_2 slices.length) (
 gdO (!(decide ((EN (s_1 + ((gt slices x_2).length : Int))) < 0))) (
 again7 (EN (s_1 + ((gt slices x_2).length : Int)), EN (x_2 + 1))
 )
 )
 ) (
 some (s_1)
 )
 )) (0, 0)) fun s_6 => (
 bdO (b7 n s_6) fun v14 => (
 bdO (aL (α := List al × Int) (β := List al) n (fun again23 (n_16, x_17) => (
 cdO (decide (x_17 < (slices.length : Int))) (
 gdO (inR x_17 slices.length) (
 gdO (decide ((n_16.length + (gt slices x_17).length) * 80 <= 140737488355328)) (
 gdO (decide (n_16.length + (gt slices x_17).length <= 4611686018427387904)) (
 again23 (n_16 ++ (gt slices x_17), EN (x_17 + 1))
 )
 )
 )
 ) (
 some (n_16)
 )
 )) (v14, 0)) fun n_22 => (
 some (n_22)
 )
 )
 )

def nq (n : Nat) (c : ae) : Option (ae) :=
 cdO (!c.Closed) (
 some (c)
 ) (
 bdO (aL (α := Int × Int) (β := Int) n (fun again34 (a_24, x_25) => (
 cdO (decide (x_25 < (c.Points.length : Int))) (
 gdO (inR x_25 c.Points.length) (
 gdO (inR a_24 c.Points.length) (
 bdO (gM n (A2.mk (gt c.Points x_25).A (gt c.Points x_25).B) (A2.mk (gt c.Points a_24).A (gt c.Points a_24).B)) fun v39 => (
 cdO (decide (v39 < 0)) (
 again34 (x_25, EN (x_25 + 1))
 ) (
 again34 (a_24, EN (x_25 + 1))
 )
 )
 )
 )
 ) (
 some (a_24)
 )
 )) (0, 0)) fun a_33 => (
 gdO (inS a_33 (c.Points.length : Int) c.Points.length) (
 gdO (inS 0 a_33 c.Points.length) (
 bdO (bZ n [((c.Points.drop a_33.toNat).take ((c.Points.length : Int).toNat - a_33.toNat)), ((c.Points.drop (0 : Int).toNat).take (a_33.toNat - (0 : Int).toNat))]) fun v47 => (
 some (ae.mk true v47)
 )
 )
 )
 )
 )

def mr (n : Nat) (a : ae) (b : ae) : Option (Int) :=
 bdO (gg n a) fun v1 => (
 bdO (gg n b) fun v3 => (
 bdO (gM n v1 v3) fun v5 => (
 some (v5)
 )
 )
 )

def bj (n : Nat) (data : List ae) (a : Int) (b : Int) : Option (List ae) :=
 bdO (aL (α := List ae × Int) (β := List ae) n (fun again72 (d_49, i_50) => (
 cdO (decide (i_50 < b)) (
 bdO (aL (α := List ae × Int) (β := List ae) n (fun again83 (d_74, j_75) => (
 cdO (decide (j_75 > a)) (
 gdO (inR j_75 d_74.length) (
 gdO (inR (EN (j_75 - 1)) d_74.length) (
 bdO (mr n (gt d_74 j_75) (gt d_74 (EN (j_75 - 1)))) fun v87 => (
 cdO (decide (v87 < 0)) (
 again83 ((d_74.set j_75.toNat (gt d_74 (EN (j_75 - 1)))).set (EN (j_75 - 1)).toNat (gt d_74 j_75), EN (j_75 - 1))
 ) (
 some (d_74)
 )
 )
 )
 )
 ) (
 some (d_74)
 )
 )) (d_49, i_50)) fun d_82 => (
 again72 (d_82, EN (i_50 + 1))
 )
 ) (
 some (d_49)
 )
 )) (data, EN (a + 1))) fun d_71 => (
 some (d_71)
 )

def bG (n : Nat) (data : List ae) (a : Int) (b : Int) (limit : Int) : Option (List ae) :=
 bdO (aL (α := Int × Int × Int × Bool × Bool) (β := List ae) n (fun again31 (a_21, b_22, l_23, w_24, w_25) => (
 gdO ((decide ((EN (b_22 - a_21)) <= 12))) (
 bdO (bj n data a_21 b_22) fun v33 => (
 some (v33)
 )
 )
 )) (a, b, limit, true, true)) fun r0 => (
 some r0
 )

def a8 (n : Nat) (x' : List ae) : Option (List ae) :=
 bdO (j3 n (aa .u64 (x'.length : Int))) fun v6 => (
 bdO (bG n x' 0 (x'.length : Int) v6) fun v8 => (
 some (v8)
 )
 )

def nw (n : Nat) (p : al) (q : al) : Option (Bool) :=
 cdO ((p.A : Int) == q.A) (
 cdO ((p.B : Int) == q.B) (
 bdO (cS n p.At) fun v3 => (
 cdO v3 (
 bdO (cS n q.At) fun v6 => (
 cdO v6 (
 bdO (eH n p.At q.At) fun v9 => (
 some ((v9 : Int) == 0)
 )
 ) (
 some (false)
 )
 )
 ) (
 some (false)
 )
 )
 ) (
 some (false)
 )
 ) (
 some (false)
 )

def aN (n : Nat) (s1 : List al) (s2 : List al) : Option (Bool) :=
 cdO (((s1.length : Int) : Int) != (s2.length : Int)) (
 some (false)
 ) (
 bdO (aL (α := Int) (β := Sum (Unit) (Bool)) n (fun again9 x_2 => (
 cdO (decide (x_2 < (s1.length : Int))) (
 gdO (inR x_2 s1.length) (
 gdO (inR x_2 s2.length) (
 bdO (nw n (gt s1 x_2) (gt s2 x_2)) fun v13 => (
 cdO (!v13) (
 some (Sum.inr (false))
 ) (
 again9 (EN (x_2 + 1))
 )
 )
 )
 )
 ) (
 some (Sum.inl ())
 )
 )) 0) fun o16 => (
 match o16 with
 | .inl _ => (
 some (true)
 )
 | .inr (r0) => (
 some r0
 ))
 )

def pE (n : Nat) (a : ae) (b : ae) : Option (Bool) :=
 cdO (a.Closed == b.Closed) (
 bdO (aN n a.Points b.Points) fun v2 => (
 some (v2)
 )
 ) (
 some (false)
 )

def aO (n : Nat) (s1 : List ae) (s2 : List ae) : Option (Bool) :=
 cdO (((s1.length : Int) : Int) != (s2.length : Int)) (
 some (false)
 ) (
 bdO (aL (α := Int) (β := Sum (Unit) (Bool)) n (fun again9 x_2 => (
 cdO (decide (x_2 < (s1.length : Int))) (
 gdO (inR x_2 s1.length) (
 gdO (inR x_2 s2.length) (
 bdO (pE n (gt s1 x_2) (gt s2 x_2)) fun v13 => (
 cdO (!v13) (
 some (Sum.inr (false))
 ) (
 again9 (EN (x_2 + 1))
 )
 )
 )
 )
 ) (
 some (Sum.inl ())
 )
 )) 0) fun o16 => (
 match o16 with
 | .inl _ => (
 some (true)
 )
 | .inr (r0) => (
 some r0
 ))
 )

noncomputable def j7 (n : Nat) (g : ar) (level : Int) (l : List ae) : Option (Int) :=
 bdO (gv n g level) fun v1 => (
 cdO ((v1 : Int) != 0) (
 some (v1)
 ) (
 bdO (aL (α := List ae × Int) (β := Sum (List ae) (Int)) n (fun again16 (g_5, x_6) => (
 cdO (decide (x_6 < (l.length : Int))) (
 gdO (inR x_6 l.length) (
 cdO ((((gt l x_6).Points.length : Int) : Int) == 0) (
 some (Sum.inr (12))
 ) (
 bdO (nq n (gt l x_6)) fun v21 => (
 gdO (decide ((g_5.length + 1) * 32 <= 140737488355328)) (
 gdO (decide (g_5.length + 1 <= 4611686018427387904)) (
 again16 (g_5 ++ [v21], EN (x_6 + 1))
 )
 )
 )
 )
 )
 ) (
 some (Sum.inl g_5)
 )
 )) ([], 0)) fun o25 => (
 match o25 with
 | .inl g_15 => (
 bdO (a8 n g_15) fun v28 => (
 gdO (decide (v28.length = g_15.length)) (
 bdO (im n g level) fun v31 => (
 bdO (aO n v28 v31) fun v33 => (
 cdO (!v33) (
 some (12)
 ) (
 some (0)
 )
 )
 )
 )
 )
 )
 | .inr (r0) => (
 some r0
 ))
 )
 )

noncomputable def fQ (n : Nat) : Option (Bool) :=
 bdO (di n) fun v1 => (
 bdO (j8 n v1 1) fun v3 => (
 cdO ((v3.2 : Int) != 0) (
 some (false)
 ) (
 cdO (((v3.1.length : Int) : Int) != 1) (
 some (false)
 ) (
 gdO (inR 0 v3.1.length) (
 cdO (!(gt v3.1 0).Closed) (
 some (false)
 ) (
 cdO ((((gt v3.1 0).Points.length : Int) : Int) != 6) (
 some (false)
 ) (
 gdO (inR 1 (gt v3.1 0).Points.length) (
 cdO (((gt (gt v3.1 0).Points 1).A : Int) != 1) (
 some (false)
 ) (
 cdO (((gt (gt v3.1 0).Points 1).B : Int) != 4) (
 some (false)
 ) (
 bdO (di n) fun v13 => (
 bdO (ot n v13 1) fun v15 => (
 bdO (di n) fun v17 => (
 bdO (eL n v17 (gt v3.1 0) 1 1) fun v19 => (
 bdO (lR n 147 16) fun v21 => (
 cdO ((v15.2 : Int) == 0) (
 cdO ((v19.2 : Int) == 0) (
 cdO ((v19.1 : Int) == 1) (
 bdO (km n v15.1 v21.1) fun v26 => (
 cdO v26 (
 bdO (di n) fun v29 => (
 bdO (j7 n v29 1 v3.1) fun v31 => (
 some ((v31 : Int) == 0)
 )
 )
 ) (
 some (false)
 )
 )
 ) (
 some (false)
 )
 ) (
 some (false)
 )
 ) (
 some (false)
 )
 )
 )
 )
 )
 )
 )
 )
 )
 )
 )
 )
 )
 )
 )
 )

def kV (n : Nat) (g : ar) (n' : Int) : Option (Bool) :=
 some (decide ((g.Z.length : Int) <= n'))

def fC (n : Nat) (x' : ak) : Option (Int) :=
 some (EN ((x'.Num.Groups.length : Int) + (x'.Den.Groups.length : Int)))

def dX (n : Nat) (n' : Int) : Option (Bool) :=
 cdO (decide (n' < (-1048576))) (
 some (true)
 ) (
 some (decide (n' > 1048576))
 )

def fR (n : Nat) (g : ar) : Option (Int) :=
 cdO (decide (g.Width < 2)) (
 some (2)
 ) (
 cdO (decide (g.Width > 64)) (
 some (2)
 ) (
 cdO (decide (g.Height < 2)) (
 some (2)
 ) (
 cdO (decide (g.Height > 64)) (
 some (2)
 ) (
 cdO (decide (g.Step < 2)) (
 some (2)
 ) (
 cdO (decide (g.Step > 65536)) (
 some (2)
 ) (
 cdO (((g.Step.tmod 2) : Int) != 0) (
 some (2)
 ) (
 bdO (dX n g.X0) fun v8 => (
 cdO v8 (
 some (2)
 ) (
 bdO (dX n g.Y0) fun v11 => (
 cdO v11 (
 some (2)
 ) (
 cdO (((g.Z.length : Int) : Int) != (EN (g.Width * g.Height))) (
 some (4)
 ) (
 bdO (aL (α := Int) (β := Sum (Unit) (Int)) n (fun again22 x_15 => (
 cdO (decide (x_15 < (g.Z.length : Int))) (
 gdO (inR x_15 g.Z.length) (
 cdO (((gt g.Z x_15) : Int) != (-2147483648)) (
 bdO (dX n (gt g.Z x_15)) fun v26 => (
 cdO v26 (
 some (Sum.inr (2))
 ) (
 again22 (EN (x_15 + 1))
 )
 )
 ) (
 again22 (EN (x_15 + 1))
 )
 )
 ) (
 some (Sum.inl ())
 )
 )) 0) fun o29 => (
 match o29 with
 | .inl _ => (
 some (0)
 )
 | .inr (r0) => (
 some r0
 ))
 )
 )
 )
 )
 )
 )
 )
 )
 )
 )
 )
 )

def eG (n : Nat) (g : ar) : Option (List (A3 Int)) :=
 bdO (aL (α := List (A3 Int) × Int) (β := List (A3 Int)) n (fun again76 (l_1, x_2) => (
 cdO (decide (x_2 < (EN (g.Height - 1)))) (
 bdO (aL (α := List (A3 Int) × Int) (β := List (A3 Int)) n (fun again113 (l_78, x_79) => (
 cdO (decide (x_79 < (EN (g.Width - 1)))) (
 bdO (some (EN ((EN (x_2 * g.Width)) + x_79))) fun w115 => (
 bdO (some [A3.mk w115 (EN (w115 + 1)) (EN ((EN (w115 + g.Width)) + 1)), A3.mk w115 (EN ((EN (w115 + g.Width)) + 1)) (EN (w115 + g.Width))]) fun w117 => (
 bdO (aL (α := List (A3 Int) × Int) (β := List (A3 Int)) n (fun again132 (l_119, x_120) => (
 cdO (decide (x_120 < 2)) (
 gdO (inR x_120 w117.length) (
 gdO (inR (gt w117 x_120).e0 g.Z.length) (
 cdO (((gt g.Z (gt w117 x_120).e0) : Int) != (-2147483648)) (
 gdO (inR (gt w117 x_120).e1 g.Z.length) (
 cdO (((gt g.Z (gt w117 x_120).e1) : Int) != (-2147483648)) (
 gdO (inR (gt w117 x_120).e2 g.Z.length) (
 cdO (((gt g.Z (gt w117 x_120).e2) : Int) != (-2147483648)) (
 gdO (decide ((l_119.length + 1) * 24 <= 140737488355328)) (
 gdO (decide (l_119.length + 1 <= 4611686018427387904)) (
 again132 (l_119 ++ [(gt w117 x_120)], EN (x_120 + 1))
 )
 )
 ) (
 again132 (l_119, EN (x_120 + 1))
 )
 )
 ) (
 again132 (l_119, EN (x_120 + 1))
 )
 )
 ) (
 again132 (l_119, EN (x_120 + 1))
 )
 )
 )
 ) (
 some (l_119)
 )
 )) (l_78, 0)) fun l_131 => (
 again113 (l_131, EN (x_79 + 1))
 )
 )
 )
 ) (
 some (l_78)
 )
 )) (l_1, 0)) fun l_112 => (
 again76 (l_112, EN (x_2 + 1))
 )
 ) (
 some (l_1)
 )
 )) ([], 0)) fun l_75 => (
 some (l_75)
 )

def gB (n : Nat) (a : Int) (b : Int) : Option (A2 Int) :=
 some (A2.mk (mn a b) (mx a b))

def bb (n : Nat) (g : ar) (k : Int) : Option (an) :=
 gdO (!decide (g.Width = 0)) (
 bdO (bJ n (EN (g.X0 + (EN ((k.tmod g.Width) * g.Step))))) fun v2 => (
 bdO (bJ n (EN (g.Y0 + (EN ((EN (k.tdiv g.Width)) * g.Step))))) fun v4 => (
 some (an.mk v2 v4)
 )
 )
 )

def bH (n : Nat) (x' : ak) (y : ak) : Option (ak) :=
 bdO (cG n x') fun v1 => (
 bdO (cG n y) fun v3 => (
 bdO (bI n v1.Num v3.Num) fun v5 => (
 bdO (bI n v1.Den v3.Den) fun v7 => (
 bdO (dk n v5 v7) fun v9 => (
 some (v9)
 )
 )
 )
 )
 )

def cm (n : Nat) (g : ar) (c : al) : Option (an × Int) :=
 bdO (eG n g) fun v1 => (
 bdO (aL (α := Bool × Int) (β := Bool) n (fun again29 (f_3, x_4) => (
 cdO (decide (x_4 < (v1.length : Int))) (
 gdO (inR x_4 v1.length) (
 bdO (aL (α := Bool × Int) (β := Bool) n (fun again42 (f_32, x_33) => (
 cdO (decide (x_33 < 3)) (
 cdO (decide (c.A < c.B)) (
 gdO (inR x_33 3) (
 gdO (inR ((EN (x_33 + 1)).tmod 3) 3) (
 bdO (gB n (A3.get (gt v1 x_4) x_33) (A3.get (gt v1 x_4) ((EN (x_33 + 1)).tmod 3))) fun v47 => (
 cdO (((v47.e0 : Int) == c.A) && (((v47.e1 : Int) == c.B) && true)) (
 again42 (true, EN (x_33 + 1))
 ) (
 again42 (f_32, EN (x_33 + 1))
 )
 )
 )
 )
 ) (
 again42 (f_32, EN (x_33 + 1))
 )
 ) (
 some (f_32)
 )
 )) (f_3, 0)) fun f_41 => (
 again29 (f_41, EN (x_4 + 1))
 )
 )
 ) (
 some (f_3)
 )
 )) (false, 0)) fun f_28 => (
 cdO (!f_28) (
 some ((an.mk (ak.mk (ai.mk false []) (ai.mk false [])) (ak.mk (ai.mk false []) (ai.mk false [])), 6))
 ) (
 bdO (bu n c.At) fun v57 => (
 cdO (!v57) (
 some ((an.mk (ak.mk (ai.mk false []) (ai.mk false [])) (ak.mk (ai.mk false []) (ai.mk false [])), 1))
 ) (
 bdO (cJ n c.At) fun v60 => (
 cdO (decide (v60 < 0)) (
 some ((an.mk (ak.mk (ai.mk false []) (ai.mk false [])) (ak.mk (ai.mk false []) (ai.mk false [])), 2))
 ) (
 bdO (bJ n 1) fun v63 => (
 bdO (aS n c.At v63) fun v65 => (
 cdO (decide (v65 > 0)) (
 some ((an.mk (ak.mk (ai.mk false []) (ai.mk false [])) (ak.mk (ai.mk false []) (ai.mk false [])), 2))
 ) (
 bdO (bb n g c.A) fun v68 => (
 bdO (bb n g c.B) fun v70 => (
 bdO (bf n v70.X v68.X) fun v72 => (
 bdO (bH n c.At v72) fun v74 => (
 bdO (bP n v68.X v74) fun v76 => (
 bdO (bf n v70.Y v68.Y) fun v78 => (
 bdO (bH n c.At v78) fun v80 => (
 bdO (bP n v68.Y v80) fun v82 => (
 some ((an.mk v76 v82, 0))
 )
 )
 )
 )
 )
 )
 )
 )
 )
 )
 )
 )
 )
 )
 )
 )
 )
 )

def dI (n : Nat) (g : ar) (c : ae) : Option (List an × Int) :=
 bdO (aL (α := List an × Int) (β := Sum (List an) (List an × Int)) n (fun again11 (l_1, x_2) => (
 cdO (decide (x_2 < (c.Points.length : Int))) (
 gdO (inR x_2 c.Points.length) (
 bdO (cm n g (gt c.Points x_2)) fun v14 => (
 cdO ((v14.2 : Int) != 0) (
 some (Sum.inr (([], v14.2)))
 ) (
 gdO (decide ((l_1.length + 1) * 128 <= 140737488355328)) (
 gdO (decide (l_1.length + 1 <= 4611686018427387904)) (
 again11 (l_1 ++ [v14.1], EN (x_2 + 1))
 )
 )
 )
 )
 )
 ) (
 some (Sum.inl l_1)
 )
 )) ([], 0)) fun o19 => (
 match o19 with
 | .inl l_10 => (
 some ((l_10, 0))
 )
 | .inr (r0) => (
 some r0
 ))

def gx (n : Nat) (a : an) (b : an) (c : an) : Option (Int) :=
 bdO (bf n b.X a.X) fun v1 => (
 bdO (bf n c.Y a.Y) fun v3 => (
 bdO (bH n v1 v3) fun v5 => (
 bdO (bf n b.Y a.Y) fun v7 => (
 bdO (bf n c.X a.X) fun v9 => (
 bdO (bH n v7 v9) fun v11 => (
 bdO (aS n v5 v11) fun v13 => (
 some (v13)
 )
 )
 )
 )
 )
 )
 )

def cQ (n : Nat) (a : ak) (b : ak) (p : ak) : Option (Bool) :=
 bdO (aS n a p) fun v1 => (
 bdO (aS n p b) fun v3 => (
 some (decide ((EN (v1 * v3)) >= 0))
 )
 )

def fz (n : Nat) (a : an) (b : an) (p : an) : Option (Bool) :=
 bdO (cQ n a.X b.X p.X) fun v1 => (
 cdO v1 (
 bdO (cQ n a.Y b.Y p.Y) fun v4 => (
 some (v4)
 )
 ) (
 some (false)
 )
 )

def cR (n : Nat) (l : List an) (p : an) : Option (Int × Bool) :=
 bdO (aL (α := Int × Int) (β := Sum (Int) (Int × Bool)) n (fun again32 (n_1, x_2) => (
 cdO (decide (x_2 < (l.length : Int))) (
 gdO (inR x_2 l.length) (
 gdO (!decide ((l.length : Int) = 0)) (
 gdO (inR ((EN (x_2 + 1)).tmod (l.length : Int)) l.length) (
 bdO (gx n (gt l x_2) (gt l ((EN (x_2 + 1)).tmod (l.length : Int))) p) fun v37 => (
 cdO ((v37 : Int) == 0) (
 bdO (fz n (gt l x_2) (gt l ((EN (x_2 + 1)).tmod (l.length : Int))) p) fun v40 => (
 cdO v40 (
 some (Sum.inr ((0, false)))
 ) (
 bdO (aS n (gt l x_2).Y p.Y) fun v43 => (
 bdO (aS n (gt l ((EN (x_2 + 1)).tmod (l.length : Int))).Y p.Y) fun v45 => (
 cdO (decide (v43 <= 0)) (
 cdO (!(decide (v45 <= 0))) (
 cdO (decide (v37 > 0)) (
 again32 (EN (n_1 + 1), EN (x_2 + 1))
 ) (
 again32 (n_1, EN (x_2 + 1))
 )
 ) (
 again32 (n_1, EN (x_2 + 1))
 )
 ) (
 cdO (decide (v45 <= 0)) (
 cdO (decide (v37 < 0)) (
 again32 (EN (n_1 - 1), EN (x_2 + 1))
 ) (
 again32 (n_1, EN (x_2 + 1))
 )
 ) (
 again32 (n_1, EN (x_2 + 1))
 )
 )
 )
 )
 )
 )
 ) (
 bdO (aS n (gt l x_2).Y p.Y) fun v52 => (
 bdO (aS n (gt l ((EN (x_2 + 1)).tmod (l.length : Int))).Y p.Y) fun v54 => (
 cdO (decide (v52 <= 0)) (
 cdO (!(decide (v54 <= 0))) (
 cdO (decide (v37 > 0)) (
 again32 (EN (n_1 + 1), EN (x_2 + 1))
 ) (
 again32 (n_1, EN (x_2 + 1))
 )
 ) (
 again32 (n_1, EN (x_2 + 1))
 )
 ) (
 cdO (decide (v54 <= 0)) (
 cdO (decide (v37 < 0)) (
 again32 (EN (n_1 - 1), EN (x_2 + 1))
 ) (
 again32 (n_1, EN (x_2 + 1))
 )
 ) (
 again32 (n_1, EN (x_2 + 1))
 )
 )
 )
 )
 )
 )
 )
 )
 )
 ) (
 some (Sum.inl n_1)
 )
 )) (0, 0)) fun o61 => (
 match o61 with
 | .inl n_31 => (
 some ((n_31, decide ((l.length : Int) > 0)))
 )
 | .inr (r0) => (
 some r0
 ))

noncomputable def dF (n : Nat) (g : ar) (l : ae) (at' : A2 Int) : Option (Bool) :=
 bdO (fQ n) fun v1 => (
 cdO (!v1) (
 some (false)
 ) (
 bdO (kV n g 40) fun v4 => (
 cdO (!v4) (
 some (true)
 ) (
 cdO (decide ((l.Points.length : Int) > 80)) (
 some (true)
 ) (
 bdO (aL (α := Int) (β := Sum (Unit) (Bool)) n (fun again14 x_8 => (
 cdO (decide (x_8 < (l.Points.length : Int))) (
 gdO (inR x_8 l.Points.length) (
 bdO (fC n (gt l.Points x_8).At) fun v17 => (
 cdO (decide (v17 > 16)) (
 some (Sum.inr (true))
 ) (
 again14 (EN (x_8 + 1))
 )
 )
 )
 ) (
 some (Sum.inl ())
 )
 )) 0) fun o20 => (
 match o20 with
 | .inl _ => (
 bdO (eL n g l at'.e0 at'.e1) fun v23 => (
 bdO (fR n g) fun v25 => (
 cdO ((v25 : Int) == 0) (
 cdO (decide (at'.e0 < 0)) (
 cdO ((v23.2 : Int) == 2) (
 some ((v23.1 : Int) == 0)
 ) (
 some (false)
 )
 ) (
 cdO (decide (at'.e0 >= g.Width)) (
 cdO ((v23.2 : Int) == 2) (
 some ((v23.1 : Int) == 0)
 ) (
 some (false)
 )
 ) (
 cdO (decide (at'.e1 < 0)) (
 cdO ((v23.2 : Int) == 2) (
 some ((v23.1 : Int) == 0)
 ) (
 some (false)
 )
 ) (
 cdO (decide (at'.e1 >= g.Height)) (
 cdO ((v23.2 : Int) == 2) (
 some ((v23.1 : Int) == 0)
 ) (
 some (false)
 )
 ) (
 cdO (!l.Closed) (
 cdO ((v23.2 : Int) == 11) (
 some ((v23.1 : Int) == 0)
 ) (
 some (false)
 )
 ) (
 bdO (dI n g l) fun v38 => (
 cdO ((v38.2 : Int) != 0) (
 cdO ((v23.2 : Int) == v38.2) (
 some ((v23.1 : Int) == 0)
 ) (
 some (false)
 )
 ) (
 bdO (bb n g (EN ((EN (at'.e1 * g.Width)) + at'.e0))) fun v42 => (
 bdO (cR n v38.1 v42) fun v44 => (
 cdO (!v44.2) (
 cdO ((v23.2 : Int) == 13) (
 some ((v23.1 : Int) == 0)
 ) (
 some (false)
 )
 ) (
 cdO ((v23.2 : Int) == 0) (
 some ((v23.1 : Int) == v44.1)
 ) (
 some (false)
 )
 )
 )
 )
 )
 )
 )
 )
 )
 )
 )
 ) (
 cdO ((v25 : Int) != 0) (
 cdO ((v23.2 : Int) == v25) (
 some ((v23.1 : Int) == 0)
 ) (
 some (false)
 )
 ) (
 bdO (bb n g (EN ((EN (at'.e1 * g.Width)) + at'.e0))) fun v51 => (
 bdO (cR n [] v51) fun v53 => (
 cdO (!v53.2) (
 cdO ((v23.2 : Int) == 13) (
 some ((v23.1 : Int) == 0)
 ) (
 some (false)
 )
 ) (
 cdO ((v23.2 : Int) == 0) (
 some ((v23.1 : Int) == v53.1)
 ) (
 some (false)
 )
 )
 )
 )
 )
 )
 )
 )
 )
 | .inr (r0) => (
 some r0
 ))
 )
 )
 )
 )
 )
abbrev iCu := iC .u32
abbrev wFu (n : Int) : Int := aa .u64 n
abbrev zN2 : List AV := [aB false, nS, aB false, nS]
abbrev zN3 : List AV := [aB false, nS, aB false, nS, aB false, nS]
abbrev zN4 : List AV := [aB false, nS, aB false, nS, aB false, nS, aB false, nS]
end Go.L