
import Derived.Test.YtecdcgfclgmbpaaGreatSc11Sums
import Derived.Test.YtecdcgfclgmbpaaGreatScMSums
import Derived.Test.YtecdcgfclgmbpaaGreatScRSums
import Derived.Test.YtecdcgfclgmbpaaGreatScUSums
set_option linter.all false
set_option maxRecDepth 100000
set_option maxHeartbeats 4000000
namespace Go.L
open Go Go.Eng
def gu : ByteArray := ⟨#[0, 1, 2, 2, 3, 3, 3, 3, 4, 4, 4, 4, 4, 4, 4, 4, 5, 5, 5, 5, 5, 5, 5, 5, 5, 5, 5, 5, 5, 5, 5, 5, 6, 6, 6, 6, 6, 6, 6, 6, 6, 6, 6, 6, 6, 6, 6, 6, 6, 6, 6, 6, 6, 6, 6, 6, 6, 6, 6, 6, 6, 6, 6, 6, 7, 7, 7, 7, 7, 7, 7, 7, 7, 7, 7, 7, 7, 7, 7, 7, 7, 7, 7, 7, 7, 7, 7, 7, 7, 7, 7, 7, 7, 7, 7, 7, 7, 7, 7, 7, 7, 7, 7, 7, 7, 7, 7, 7, 7, 7, 7, 7, 7, 7, 7, 7, 7, 7, 7, 7, 7, 7, 7, 7, 7, 7, 7, 7, 8, 8, 8, 8, 8, 8, 8, 8, 8, 8, 8, 8, 8, 8, 8, 8, 8, 8, 8, 8, 8, 8, 8, 8, 8, 8, 8, 8, 8, 8, 8, 8, 8, 8, 8, 8, 8, 8, 8, 8, 8, 8, 8, 8, 8, 8, 8, 8, 8, 8, 8, 8, 8, 8, 8, 8, 8, 8, 8, 8, 8, 8, 8, 8, 8, 8, 8, 8, 8, 8, 8, 8, 8, 8, 8, 8, 8, 8, 8, 8, 8, 8, 8, 8, 8, 8, 8, 8, 8, 8, 8, 8, 8, 8, 8, 8, 8, 8, 8, 8, 8, 8, 8, 8, 8, 8, 8, 8, 8, 8, 8, 8, 8, 8, 8, 8, 8, 8, 8, 8, 8, 8, 8, 8, 8, 8, 8, 8]⟩
structure al where
 X0 : Int
 Y0 : Int
 Step : Int
 Width : Int
 Height : Int
 Z : List Int
 deriving Inhabited

structure ah where
 Negative : Bool
 Groups : List Int
 deriving Inhabited

structure ag where
 Num : ah
 Den : ah
 deriving Inhabited

structure ak where
 A : Int
 B : Int
 At : ag
 deriving Inhabited

structure ai where
 Closed : Bool
 Points : List ak
 deriving Inhabited

structure A2 (α : Type) where
 e0 : α
 e1 : α
 deriving Inhabited, DecidableEq

def av.K (x : A2 Int) : Value := .agg #[.int .i64 x.e0, .int .i64 x.e1]
theorem av.key : BB av.K := fun ⟨a0, a1⟩ ⟨b0, b1⟩ => by
 have h : ((⟨a0, a1⟩ : A2 Int) == ⟨b0, b1⟩) = (a0 == b0 && (a1 == b1 && true)) := by rw [Bool.eq_iff_iff]; simp
 show some _ = some _
 rw [h]

def aj.c (x : A2 Int) : List AV := [.at (.int .i64 x.e0), .at (.int .i64 x.e1)]
theorem aj.len : ∀ x, (aj.c x).length = 2 := fun _ => rfl
theorem aj.pure : ∀ x, dO (aj.c x) = [] := fun _ => rfl

structure A3 (α : Type) where
 e0 : α
 e1 : α
 e2 : α
 deriving Inhabited

def an.c (x : A3 Int) : List AV := [.at (.int .i64 x.e0), .at (.int .i64 x.e1), .at (.int .i64 x.e2)]
theorem an.len : ∀ x, (an.c x).length = 3 := fun _ => rfl
theorem an.pure : ∀ x, dO (an.c x) = [] := fun _ => rfl

def A3.get (x : A3 Int) (j : Int) : Int := gt [x.e0, x.e1, x.e2] j
def A3.put (x : A3 Int) (j v : Int) : A3 Int := ⟨if j.toNat = 0 then v else x.e0, if j.toNat = 1 then v else x.e1, if j.toNat = 2 then v else x.e2⟩
theorem A3.Fa {k : IntKind} (x : A3 Int) {j : Int} (v : Int) (h : inR j 3 = true) : setCells [.at (.int k x.e0), .at (.int k x.e1), .at (.int k x.e2)] j.toNat [.at (.int k v)] = [.at (.int k (x.put j v).e0), .at (.int k (x.put j v).e1), .at (.int k (x.put j v).e2)] := by
 have h1 := aA h
 have hj : j.toNat = 0 \/ j.toNat = 1 \/ j.toNat = 2 := by omega
 unfold A3.put
 rcases hj with e | e | e <;> simp only [e] <;> rfl

def ak.c (x : ak) : List AV := [.at (.int .i64 x.A), .at (.int .i64 x.B), .at (.bool x.At.Num.Negative), slT (iC .u32) x.At.Num.Groups, .at (.bool x.At.Den.Negative), slT (iC .u32) x.At.Den.Groups]
theorem ak.len : ∀ x, (ak.c x).length = 6 := fun _ => rfl
theorem ak.pure : ∀ x, dO (ak.c x) = [] := fun _ => rfl

def ai.c (x : ai) : List AV := [.at (.bool x.Closed), slT ak.c x.Points]
theorem ai.len : ∀ x, (ai.c x).length = 2 := fun _ => rfl
theorem ai.pure : ∀ x, dO (ai.c x) = [] := fun _ => rfl

theorem ak.inj : ∀ x y, ak.c x = ak.c y -> x = y := by
 rintro ⟨_, _, ⟨⟨_, _⟩, ⟨_, _⟩⟩⟩ ⟨_, _, ⟨⟨_, _⟩, ⟨_, _⟩⟩⟩ h
 simp only [ak.c, List.cons.injEq, AV.at.injEq, Value.int.injEq, Value.bool.injEq, true_and, and_true, eZ] at h
 simp_all

structure aJ where
 X : ag
 Y : ag
 deriving Inhabited

def aJ.c (x : aJ) : List AV := [.at (.bool x.X.Num.Negative), slT (iC .u32) x.X.Num.Groups, .at (.bool x.X.Den.Negative), slT (iC .u32) x.X.Den.Groups, .at (.bool x.Y.Num.Negative), slT (iC .u32) x.Y.Num.Groups, .at (.bool x.Y.Den.Negative), slT (iC .u32) x.Y.Den.Groups]
theorem aJ.len : ∀ x, (aJ.c x).length = 8 := fun _ => rfl
theorem aJ.pure : ∀ x, dO (aJ.c x) = [] := fun _ => rfl

def al.c (x : al) : List AV := [.at (.int .i64 x.X0), .at (.int .i64 x.Y0), .at (.int .i64 x.Step), .at (.int .i64 x.Width), .at (.int .i64 x.Height), slT (iC .i64) x.Z]
theorem al.len : ∀ x, (al.c x).length = 6 := fun _ => rfl
theorem al.pure : ∀ x, dO (al.c x) = [] := fun _ => rfl

def ag.c (x : ag) : List AV := [.at (.bool x.Num.Negative), slT (iC .u32) x.Num.Groups, .at (.bool x.Den.Negative), slT (iC .u32) x.Den.Groups]
theorem ag.len : ∀ x, (ag.c x).length = 4 := fun _ => rfl
theorem ag.pure : ∀ x, dO (ag.c x) = [] := fun _ => rfl

def ah.c (x : ah) : List AV := [.at (.bool x.Negative), slT (iC .u32) x.Groups]
theorem ah.len : ∀ x, (ah.c x).length = 2 := fun _ => rfl
theorem ah.pure : ∀ x, dO (ah.c x) = [] := fun _ => rfl

def dj (n : Nat) : Option (al) :=
 some (al.mk 0 0 2 3 3 [(0 : Int), (0 : Int), (0 : Int), (0 : Int), (4 : Int), (0 : Int), (0 : Int), (0 : Int), (0 : Int)])

def e8 (n : Nat) (n' : Int) : Option (Bool) :=
 cdO (decide (n' >= 2)) (
 some (decide (n' <= 64))
 ) (
 some (false)
 )

def iY (n : Nat) (n' : Int) : Option (Bool) :=
 cdO (decide (n' < (-1048576))) (
 some (true)
 ) (
 some (decide (n' > 1048576))
 )

def jo (n : Nat) (z : Int) : Option (Bool) :=
 cdO ((z : Int) != (-2147483648)) (
 bdO (iY n z) fun v2 => (
 some (v2)
 )
 ) (
 some (false)
 )

def cf (n : Nat) (s : List Int) : Option (Int) :=
 bdO (aH (α := Int) (β := Sum (Unit) (Int)) n (fun again7 x_1 => (
 cdO (decide (x_1 < (s.length : Int))) (
 gdO (inR x_1 s.length) (
 bdO (jo n (gt s x_1)) fun v10 => (
 cdO v10 (
 some (Sum.inr (x_1))
 ) (
 again7 (Fc (x_1 + 1))
 )
 )
 )
 ) (
 some (Sum.inl ())
 )
 )) 0) fun o13 => (
 match o13 with
 | .inl _ => (
 some ((-1))
 )
 | .inr (r0) => (
 some r0
 ))

def br (n : Nat) (s : List Int) : Option (Bool) :=
 bdO (cf n s) fun v1 => (
 some (decide (v1 >= 0))
 )

def jC (n : Nat) (g : al) : Option (Int) :=
 bdO (e8 n g.Width) fun v1 => (
 cdO (!v1) (
 some (2)
 ) (
 bdO (e8 n g.Height) fun v4 => (
 cdO (!v4) (
 some (2)
 ) (
 cdO (decide (g.Step < 2)) (
 some (2)
 ) (
 cdO (decide (g.Step > 65536)) (
 some (2)
 ) (
 cdO (((g.Step.tmod 2) : Int) != 0) (
 some (2)
 ) (
 bdO (iY n g.X0) fun v10 => (
 cdO v10 (
 some (2)
 ) (
 bdO (iY n g.Y0) fun v13 => (
 cdO v13 (
 some (2)
 ) (
 cdO (((g.Z.length : Int) : Int) != (Fc (g.Width * g.Height))) (
 some (4)
 ) (
 bdO (br n g.Z) fun v17 => (
 cdO v17 (
 some (2)
 ) (
 some (0)
 )
 )
 )
 )
 )
 )
 )
 )
 )
 )
 )
 )
 )
 )

def dF (n : Nat) (g : al) (level : Int) : Option (Int) :=
 bdO (jC n g) fun v1 => (
 cdO ((v1 : Int) != 0) (
 some (v1)
 ) (
 cdO (((level.tmod 2) : Int) == 0) (
 some (1)
 ) (
 cdO (decide (level < (-2097153))) (
 some (2)
 ) (
 cdO (decide (level > 2097153)) (
 some (2)
 ) (
 some (0)
 )
 )
 )
 )
 )

def fb (n : Nat) (k : Int) (p : Int) (p' : Int) (p'' : Int) (AK : Int) (xk : Int) (iL : List Int) (ln : Int) : Option (Bool) :=
 gdO (inR k iL.length) (
 some (decide ((Fc (2 * (gt iL k))) > ln))
 )

def lF (n : Nat) (a : Int) (b : Int) : Option (A2 Int) :=
 some (A2.mk (mn a b) (mx a b))

def lQ (n : Nat) (t : A3 Int) (c : Int) (c' : Int) (c'' : Int) (wF : Int) (rX : Int) (ox : List Int) (mi : Int) (p : List (A2 Int × A2 Int)) (p' : List (A2 Int × Bool)) : Option (List (A2 Int × A2 Int) × List (A2 Int × Bool)) :=
 bdO (aH (α := Int × Int × Int × Int × Bool × Int) (β := Int × Int × Int × Int × Bool) n (fun again110 (f_71, f_72, t_73, t_74, c_75, x_76) => (
 cdO (decide (x_76 < 3)) (
 gdO (inR x_76 3) (
 gdO (inR ((Fc (x_76 + 1)).tmod 3) 3) (
 bdO (some (A3.get t ((Fc (x_76 + 1)).tmod 3))) fun w115 => (
 bdO (α := Bool) (
 bdO (fb n (A3.get t x_76) c c' c'' wF rX ox mi) fun v120 => (
 cdO v120 (
 bdO (fb n w115 c c' c'' wF rX ox mi) fun v123 => (
 some (!v123)
 )
 ) (
 some (false)
 )
 )
 ) fun x_119 => (
 cdO x_119 (
 bdO (lF n (A3.get t x_76) w115) fun v129 => (
 again110 (v129.e0, v129.e1, t_73, t_74, true, Fc (x_76 + 1))
 )
 ) (
 bdO (fb n (A3.get t x_76) c c' c'' wF rX ox mi) fun v131 => (
 cdO (!v131) (
 bdO (fb n w115 c c' c'' wF rX ox mi) fun v134 => (
 cdO v134 (
 bdO (lF n (A3.get t x_76) w115) fun v137 => (
 again110 (f_71, f_72, v137.e0, v137.e1, c_75, Fc (x_76 + 1))
 )
 ) (
 again110 (f_71, f_72, t_73, t_74, c_75, Fc (x_76 + 1))
 )
 )
 ) (
 again110 (f_71, f_72, t_73, t_74, c_75, Fc (x_76 + 1))
 )
 )
 )
 )
 )
 )
 )
 ) (
 some ((f_71, f_72, t_73, t_74, c_75))
 )
 )) (0, 0, 0, 0, false, 0)) fun o139 => (
 match o139 with
 | (f_105, f_106, t_107, t_108, c_109) => (
 cdO c_109 (
 some ((kq p (A2.mk f_105 f_106) (A2.mk t_107 t_108), kq p' (A2.mk t_107 t_108) true))
 ) (
 some ((p, p'))
 )
 ))

def bh (n : Nat) (g : al) (c : Int) (c' : Int) (c'' : Int) (wF : Int) (rX : Int) (ox : List Int) (mi : Int) (qY : List (A2 Int × A2 Int)) (pw : List (A2 Int × Bool)) : Option (List (A2 Int × A2 Int) × List (A2 Int × Bool)) :=
 bdO (aH (α := List (A2 Int × A2 Int) × List (A2 Int × Bool) × Int) (β := List (A2 Int × A2 Int) × List (A2 Int × Bool)) n (fun again272 (c_182, c_183, x_184) => (
 cdO (decide (x_184 < (Fc (g.Height - 1)))) (
 bdO (aH (α := List (A2 Int × A2 Int) × List (A2 Int × Bool) × Int) (β := List (A2 Int × A2 Int) × List (A2 Int × Bool)) n (fun again317 (c_275, c_276, x_277) => (
 cdO (decide (x_277 < (Fc (g.Width - 1)))) (
 bdO (some (Fc ((Fc (x_184 * g.Width)) + x_277))) fun w320 => (
 bdO (some [A3.mk w320 (Fc (w320 + 1)) (Fc ((Fc (w320 + g.Width)) + 1)), A3.mk w320 (Fc ((Fc (w320 + g.Width)) + 1)) (Fc (w320 + g.Width))]) fun w322 => (
 bdO (aH (α := List (A2 Int × A2 Int) × List (A2 Int × Bool) × Int) (β := List (A2 Int × A2 Int) × List (A2 Int × Bool)) n (fun again340 (c_324, c_325, x_326) => (
 cdO (decide (x_326 < 2)) (
 gdO (inR x_326 w322.length) (
 gdO (inR (gt w322 x_326).e0 g.Z.length) (
 cdO (((gt g.Z (gt w322 x_326).e0) : Int) != (-2147483648)) (
 gdO (inR (gt w322 x_326).e1 g.Z.length) (
 cdO (((gt g.Z (gt w322 x_326).e1) : Int) != (-2147483648)) (
 gdO (inR (gt w322 x_326).e2 g.Z.length) (
 cdO (((gt g.Z (gt w322 x_326).e2) : Int) != (-2147483648)) (
 bdO (lQ n (gt w322 x_326) c c' c'' wF rX ox mi c_324 c_325) fun v350 => (
 again340 (v350.1, v350.2, Fc (x_326 + 1))
 )
 ) (
 again340 (c_324, c_325, Fc (x_326 + 1))
 )
 )
 ) (
 again340 (c_324, c_325, Fc (x_326 + 1))
 )
 )
 ) (
 again340 (c_324, c_325, Fc (x_326 + 1))
 )
 )
 )
 ) (
 some ((c_324, c_325))
 )
 )) (c_275, c_276, 0)) fun o352 => (
 match o352 with
 | (c_338, c_339) => (
 again317 (c_338, c_339, Fc (x_277 + 1))
 ))
 )
 )
 ) (
 some ((c_275, c_276))
 )
 )) (c_182, c_183, 0)) fun o355 => (
 match o355 with
 | (c_315, c_316) => (
 again272 (c_315, c_316, Fc (x_184 + 1))
 ))
 ) (
 some ((c_182, c_183))
 )
 )) (qY, pw, 0)) fun o358 => (
 match o358 with
 | (c_270, c_271) => (
 some ((c_270, c_271))
 ))

def mR (n : Nat) (x' : Int) : Option (Int) :=
 cdO (decide (x' >= 4294967296)) (
 cdO (decide ((x'.fdiv (2 ^ 32)) >= 65536)) (
 cdO (decide (((x'.fdiv (2 ^ 32)).fdiv (2 ^ 16)) >= 256)) (
 bdO (some (((x'.fdiv (2 ^ 32)).fdiv (2 ^ 16)).fdiv (2 ^ 8))) fun w4 => (
 gdO (inR (aa .u8 w4) 256) (
 some (Fc (56 + (Fc (iO gu (aa .u8 w4)))))
 )
 )
 ) (
 gdO (inR (aa .u8 ((x'.fdiv (2 ^ 32)).fdiv (2 ^ 16))) 256) (
 some (Fc (48 + (Fc (iO gu (aa .u8 ((x'.fdiv (2 ^ 32)).fdiv (2 ^ 16)))))))
 )
 )
 ) (
 cdO (decide ((x'.fdiv (2 ^ 32)) >= 256)) (
 gdO (inR (aa .u8 ((x'.fdiv (2 ^ 32)).fdiv (2 ^ 8))) 256) (
 some (Fc (40 + (Fc (iO gu (aa .u8 ((x'.fdiv (2 ^ 32)).fdiv (2 ^ 8)))))))
 )
 ) (
 gdO (inR (aa .u8 (x'.fdiv (2 ^ 32))) 256) (
 some (Fc (32 + (Fc (iO gu (aa .u8 (x'.fdiv (2 ^ 32)))))))
 )
 )
 )
 ) (
 cdO (decide (x' >= 65536)) (
 cdO (decide ((x'.fdiv (2 ^ 16)) >= 256)) (
 gdO (inR (aa .u8 ((x'.fdiv (2 ^ 16)).fdiv (2 ^ 8))) 256) (
 some (Fc (24 + (Fc (iO gu (aa .u8 ((x'.fdiv (2 ^ 16)).fdiv (2 ^ 8)))))))
 )
 ) (
 gdO (inR (aa .u8 (x'.fdiv (2 ^ 16))) 256) (
 some (Fc (16 + (Fc (iO gu (aa .u8 (x'.fdiv (2 ^ 16)))))))
 )
 )
 ) (
 cdO (decide (x' >= 256)) (
 gdO (inR (aa .u8 (x'.fdiv (2 ^ 8))) 256) (
 some (Fc (8 + (Fc (iO gu (aa .u8 (x'.fdiv (2 ^ 8)))))))
 )
 ) (
 gdO (inR (aa .u8 x') 256) (
 some (Fc (0 + (Fc (iO gu (aa .u8 x')))))
 )
 )
 )
 )

def kA (n : Nat) (x' : Int) : Option (Int) :=
 bdO (mR n x') fun v1 => (
 some (v1)
 )

def gX (n : Nat) (a : A2 Int) (b : A2 Int) : Option (Int) :=
 cdO ((a.e0 : Int) != b.e0) (
 some (Fc (a.e0 - b.e0))
 ) (
 some (Fc (a.e1 - b.e1))
 )

def bm (n : Nat) (data : List (A2 Int)) (a : Int) (b : Int) : Option (List (A2 Int)) :=
 bdO (aH (α := List (A2 Int) × Int) (β := List (A2 Int)) n (fun again72 (d_49, i_50) => (
 cdO (decide (i_50 < b)) (
 bdO (aH (α := List (A2 Int) × Int) (β := List (A2 Int)) n (fun again83 (d_74, j_75) => (
 cdO (decide (j_75 > a)) (
 gdO (inR j_75 d_74.length) (
 gdO (inR (Fc (j_75 - 1)) d_74.length) (
 bdO (gX n (gt d_74 j_75) (gt d_74 (Fc (j_75 - 1)))) fun v87 => (
 cdO (decide (v87 < 0)) (
 again83 ((d_74.set j_75.toNat (gt d_74 (Fc (j_75 - 1)))).set (Fc (j_75 - 1)).toNat (gt d_74 j_75), Fc (j_75 - 1))
 ) (
 some (d_74)
 )
 )
 )
 )
 ) (
 some (d_74)
 )
 )) (d_49, i_50)) fun d_82 => (
 again72 (d_82, Fc (i_50 + 1))
 )
 ) (
 some (d_49)
 )
 )) (data, Fc (a + 1))) fun d_71 => (
 some (d_71)
 )

def bE (n : Nat) (data : List (A2 Int)) (a : Int) (b : Int) (limit : Int) : Option (List (A2 Int)) :=
 bdO (aH (α := Int × Int × Int × Bool × Bool) (β := List (A2 Int)) n (fun again31 (a_21, b_22, l_23, w_24, w_25) => (
 gdO ((decide ((Fc (b_22 - a_21)) <= 12))) (
 bdO (bm n data a_21 b_22) fun v33 => (
 some (v33)
 )
 )
 )) (a, b, limit, true, true)) fun r0 => (
 some r0
 )

def aK (n : Nat) (x' : List (A2 Int)) : Option (List (A2 Int)) :=
 bdO (kA n (aa .u64 (x'.length : Int))) fun v6 => (
 bdO (bE n x' 0 (x'.length : Int) v6) fun v8 => (
 some (v8)
 )
 )

def cX (n : Nat) (n' : Int) : Option (List Int) :=
 bdO (aH (α := Int × List Int) (β := List Int) n (fun again7 (n_1, g_2) => (
 cdO (decide (n_1 > 0)) (
 gdO (decide ((g_2.length + 1) * 4 <= 140737488355328)) (
 gdO (decide (g_2.length + 1 <= 4611686018427387904)) (
 again7 (aa .u64 (n_1.tdiv 1000000000), g_2 ++ [aa .u32 (n_1.tmod 1000000000)])
 )
 )
 ) (
 some (g_2)
 )
 )) (n', [])) fun g_6 => (
 some (g_6)
 )

def ei (n : Nat) (g : List Int) : Option (List Int) :=
 bdO (aH (α := List Int) (β := List Int) n (fun again7 g_1 => (
 cdO (decide ((g_1.length : Int) > 0)) (
 gdO (inR (Fc ((g_1.length : Int) - 1)) g_1.length) (
 cdO (((gt g_1 (Fc ((g_1.length : Int) - 1))) : Int) == 0) (
 gdO (inS 0 (Fc ((g_1.length : Int) - 1)) g_1.length) (
 again7 ((g_1.drop (0 : Int).toNat).take ((Fc ((g_1.length : Int) - 1)).toNat - (0 : Int).toNat))
 )
 ) (
 some (g_1)
 )
 )
 ) (
 some (g_1)
 )
 )) g) fun g_6 => (
 some (g_6)
 )

def bV (n : Nat) (negative : Bool) (g : List Int) : Option (ah) :=
 bdO (ei n g) fun v1 => (
 cdO (((v1.length : Int) : Int) == 0) (
 some (ah.mk false [])
 ) (
 some (ah.mk negative v1)
 )
 )

def fV (n : Nat) (n' : Int) : Option (ah) :=
 cdO (decide (n' < 0)) (
 bdO (cX n (aa .u64 (0 - (aa .u64 n')))) fun v2 => (
 bdO (bV n true v2) fun v4 => (
 some (v4)
 )
 )
 ) (
 bdO (cX n (aa .u64 n')) fun v6 => (
 bdO (bV n false v6) fun v8 => (
 some (v8)
 )
 )
 )

def mS (n : Nat) (g : Int) : Option (Bool) :=
 some (decide (g >= 1000000000))

def bH (n : Nat) (s : List Int) : Option (Int) :=
 bdO (aH (α := Int) (β := Sum (Unit) (Int)) n (fun again7 x_1 => (
 cdO (decide (x_1 < (s.length : Int))) (
 gdO (inR x_1 s.length) (
 bdO (mS n (gt s x_1)) fun v10 => (
 cdO v10 (
 some (Sum.inr (x_1))
 ) (
 again7 (Fc (x_1 + 1))
 )
 )
 )
 ) (
 some (Sum.inl ())
 )
 )) 0) fun o13 => (
 match o13 with
 | .inl _ => (
 some ((-1))
 )
 | .inr (r0) => (
 some r0
 ))

def a9 (n : Nat) (s : List Int) : Option (Bool) :=
 bdO (bH n s) fun v1 => (
 some (decide (v1 >= 0))
 )

def eL (n : Nat) (x' : ah) : Option (Bool) :=
 cdO (((x'.Groups.length : Int) : Int) == 0) (
 some (!x'.Negative)
 ) (
 gdO (inR (Fc ((x'.Groups.length : Int) - 1)) x'.Groups.length) (
 cdO (((gt x'.Groups (Fc ((x'.Groups.length : Int) - 1))) : Int) != 0) (
 bdO (a9 n x'.Groups) fun v4 => (
 some (!v4)
 )
 ) (
 some (false)
 )
 )
 )

def fr (n : Nat) (n' : ah) : Option (ah) :=
 bdO (eL n n') fun v1 => (
 cdO v1 (
 some (n')
 ) (
 bdO (fV n 0) fun v4 => (
 some (v4)
 )
 )
 )

def bL (n : Nat) (x' : ah) : Option (List Int) :=
 bdO (eL n x') fun v1 => (
 cdO (!v1) (
 some ([])
 ) (
 some (x'.Groups)
 )
 )

def dL (n : Nat) (x' : ah) : Option (Int) :=
 bdO (bL n x') fun v1 => (
 cdO (((v1.length : Int) : Int) == 0) (
 some (0)
 ) (
 cdO x'.Negative (
 some ((-1))
 ) (
 some (1)
 )
 )
 )

def cB (n : Nat) (s : List Int) : Option (List Int) :=
 gdO (decide ((0 + s.length) * 4 <= 140737488355328)) (
 gdO (decide (0 + s.length <= 4611686018427387904)) (
 some (s)
 )
 )

def eI (n : Nat) (x' : ah) : Option (ah) :=
 bdO (bL n x') fun v1 => (
 bdO (cB n v1) fun v3 => (
 bdO (bV n (!x'.Negative) v3) fun v5 => (
 some (v5)
 )
 )
 )




def jy (n : Nat) (a : List Int) (b : List Int) : Option (List Int) :=
 gdO (decide (0 <= Fc ((a.length : Int) + (b.length : Int)))) (
 gdO (decide ((4 : Int) * (Fc ((a.length : Int) + (b.length : Int))) <= 281474976710656)) (
 gdO (decide (Fc ((a.length : Int) + (b.length : Int)) <= 9223372036854775807)) (
 bdO (aH (α := List Int × Int) (β := List Int) n (fun again25 (o_4, x_5) => (
 cdO (decide (x_5 < (a.length : Int))) (
 gdO (inR x_5 a.length) (
 bdO (aH (α := List Int × Int × Int) (β := List Int × Int) n (fun again36 (o_28, c_29, x_30) => (
 cdO (decide (x_30 < (b.length : Int))) (
 gdO (inR x_30 b.length) (
 gdO (inR (Fc (x_5 + x_30)) o_28.length) (
 again36 (o_28.set (Fc (x_5 + x_30)).toNat (aa .u32 ((aa .u64 ((aa .u64 ((aa .u64 (gt o_28 (Fc (x_5 + x_30)))) + (aa .u64 ((aa .u64 (gt a x_5)) * (aa .u64 (gt b x_30)))))) + c_29)).tmod 1000000000)), aa .u64 ((aa .u64 ((aa .u64 ((aa .u64 (gt o_28 (Fc (x_5 + x_30)))) + (aa .u64 ((aa .u64 (gt a x_5)) * (aa .u64 (gt b x_30)))))) + c_29)).tdiv 1000000000), Fc (x_30 + 1))
 )
 )
 ) (
 some ((o_28, c_29))
 )
 )) (o_4, 0, 0)) fun o40 => (
 match o40 with
 | (o_34, c_35) => (
 gdO (inR (Fc (x_5 + (b.length : Int))) o_34.length) (
 again25 (o_34.set (Fc (x_5 + (b.length : Int))).toNat (aa .u32 c_35), Fc (x_5 + 1))
 )
 ))
 )
 ) (
 some (o_4)
 )
 )) (List.replicate (Fc ((a.length : Int) + (b.length : Int))).toNat ((0 : Int) : Int), 0)) fun o_24 => (
 bdO (ei n o_24) fun v47 => (
 some (v47)
 )
 )
 )
 )
 )

def nN (n : Nat) (g : List Int) : Option (List Int) :=
 bdO (aH (α := List Int) (β := List Int) n (fun again22 g_16 => (
 cdO (decide ((g_16.length : Int) > 0)) (
 gdO (inR (Fc ((g_16.length : Int) - 1)) g_16.length) (
 cdO (((gt g_16 (Fc ((g_16.length : Int) - 1))) : Int) == 0) (
 gdO (inS 0 (Fc ((g_16.length : Int) - 1)) g_16.length) (
 again22 (g_16.take (Fc ((g_16.length : Int) - 1)).toNat)
 )
 ) (
 some (g_16)
 )
 )
 ) (
 some (g_16)
 )
 )) g) fun g_21 => (
 some (g_21)
 )

def jw (n : Nat) (a : List Int) (b : List Int) : Option (List Int) :=
 gdO (decide (0 <= Fc ((a.length : Int) + (b.length : Int)))) (
 gdO (decide ((4 : Int) * (Fc ((a.length : Int) + (b.length : Int))) <= 281474976710656)) (
 gdO (decide (Fc ((a.length : Int) + (b.length : Int)) <= 9223372036854775807)) (
 bdO (aH (α := List Int × Int) (β := List Int) n (fun again74 (o_53, x_54) => (
 cdO (decide (x_54 < (a.length : Int))) (
 gdO (inR x_54 a.length) (
 bdO (aH (α := List Int × Int × Int) (β := List Int × Int) n (fun again85 (o_77, c_78, x_79) => (
 cdO (decide (x_79 < (b.length : Int))) (
 gdO (inR x_79 b.length) (
 gdO (inR (Fc (x_54 + x_79)) o_77.length) (
 again85 (o_77.set (Fc (x_54 + x_79)).toNat (aa .u32 ((aa .u64 ((aa .u64 ((aa .u64 (gt o_77 (Fc (x_54 + x_79)))) + (aa .u64 ((aa .u64 (gt a x_54)) * (aa .u64 (gt b x_79)))))) + c_78)).tmod 1000000000)), aa .u64 ((aa .u64 ((aa .u64 ((aa .u64 (gt o_77 (Fc (x_54 + x_79)))) + (aa .u64 ((aa .u64 (gt a x_54)) * (aa .u64 (gt b x_79)))))) + c_78)).tdiv 1000000000), Fc (x_79 + 1))
 )
 )
 ) (
 some ((o_77, c_78))
 )
 )) (o_53, 0, 0)) fun o89 => (
 match o89 with
 | (o_83, c_84) => (
 gdO (inR (Fc (x_54 + (b.length : Int))) o_83.length) (
 again74 (o_83.set (Fc (x_54 + (b.length : Int))).toNat (aa .u32 c_84), Fc (x_54 + 1))
 )
 ))
 )
 ) (
 some (o_53)
 )
 )) (List.replicate (Fc ((a.length : Int) + (b.length : Int))).toNat ((0 : Int) : Int), 0)) fun o_73 => (
 bdO (nN n o_73) fun v96 => (
 some (v96)
 )
 )
 )
 )
 )

def gF (n : Nat) (g : List Int) (i : Int) : Option (Int) :=
 cdO (decide (i < (g.length : Int))) (
 gdO (inR i g.length) (
 some ((gt g i))
 )
 ) (
 some (0)
 )

def jg (n : Nat) (a : List Int) (b : List Int) : Option (List Int × List Int) :=
 gdO (inR (Fc ((b.length : Int) - 1)) b.length) (
 gdO (!decide (aa .u64 ((aa .u64 (gt b (Fc ((b.length : Int) - 1)))) + 1) = 0)) (
 bdO (jw n a [aa .u32 (aa .u64 ((1000000000 : Int).tdiv (aa .u64 ((aa .u64 (gt b (Fc ((b.length : Int) - 1)))) + 1))))]) fun v3 => (
 bdO (jw n b [aa .u32 (aa .u64 ((1000000000 : Int).tdiv (aa .u64 ((aa .u64 (gt b (Fc ((b.length : Int) - 1)))) + 1))))]) fun v5 => (
 gdO (decide ((v3.length + 1) * 4 <= 140737488355328)) (
 gdO (decide (v3.length + 1 <= 4611686018427387904)) (
 bdO (α := List Int) (
 cdO (decide (((v3 ++ [(0 : Int)]).length : Int) <= (a.length : Int))) (
 gdO (decide (((v3 ++ [(0 : Int)]).length + 1) * 4 <= 140737488355328)) (
 gdO (decide ((v3 ++ [(0 : Int)]).length + 1 <= 4611686018427387904)) (
 some ((v3 ++ [(0 : Int)]) ++ [(0 : Int)])
 )
 )
 ) (
 some (v3 ++ [(0 : Int)])
 )
 ) fun u_9 => (
 gdO (decide (0 <= Fc ((u_9.length : Int) - (v5.length : Int)))) (
 gdO (decide ((4 : Int) * (Fc ((u_9.length : Int) - (v5.length : Int))) <= 281474976710656)) (
 gdO (decide (Fc ((u_9.length : Int) - (v5.length : Int)) <= 9223372036854775807)) (
 bdO (aH (α := List Int × List Int × Int) (β := List Int × List Int) n (fun again129 (q_19, u_20, j_21) => (
 cdO (decide (j_21 >= 0)) (
 bdO (gF n u_20 (Fc (j_21 + (v5.length : Int)))) fun v132 => (
 gdO (inR (Fc ((Fc (j_21 + (v5.length : Int))) - 1)) u_20.length) (
 gdO (inR (Fc ((v5.length : Int) - 1)) v5.length) (
 gdO (!decide (aa .u64 (gt v5 (Fc ((v5.length : Int) - 1))) = 0)) (
 bdO (aH (α := Int × Int) (β := Int) n (fun again165 (g_156, r_157) => (
 cdO (decide (g_156 >= 1000000000)) (
 cdO (decide ((aa .u64 (r_157 + (aa .u64 (gt v5 (Fc ((v5.length : Int) - 1)))))) >= 1000000000)) (
 some (aa .u64 (g_156 - 1))
 ) (
 again165 (aa .u64 (g_156 - 1), aa .u64 (r_157 + (aa .u64 (gt v5 (Fc ((v5.length : Int) - 1))))))
 )
 ) (
 gdO (inR (Fc ((v5.length : Int) - 2)) v5.length) (
 gdO (inR (Fc ((Fc (j_21 + (v5.length : Int))) - 2)) u_20.length) (
 cdO (decide ((aa .u64 (g_156 * (aa .u64 (gt v5 (Fc ((v5.length : Int) - 2)))))) > (aa .u64 ((aa .u64 (r_157 * 1000000000)) + (aa .u64 (gt u_20 (Fc ((Fc (j_21 + (v5.length : Int))) - 2)))))))) (
 cdO (decide ((aa .u64 (r_157 + (aa .u64 (gt v5 (Fc ((v5.length : Int) - 1)))))) >= 1000000000)) (
 some (aa .u64 (g_156 - 1))
 ) (
 again165 (aa .u64 (g_156 - 1), aa .u64 (r_157 + (aa .u64 (gt v5 (Fc ((v5.length : Int) - 1))))))
 )
 ) (
 some (g_156)
 )
 )
 )
 )
 )) (aa .u64 ((aa .u64 ((aa .u64 ((aa .u64 v132) * 1000000000)) + (aa .u64 (gt u_20 (Fc ((Fc (j_21 + (v5.length : Int))) - 1)))))).tdiv (aa .u64 (gt v5 (Fc ((v5.length : Int) - 1))))), (aa .u64 ((aa .u64 ((aa .u64 v132) * 1000000000)) + (aa .u64 (gt u_20 (Fc ((Fc (j_21 + (v5.length : Int))) - 1)))))).tmod (aa .u64 (gt v5 (Fc ((v5.length : Int) - 1)))))) fun g_164 => (
 bdO (aH (α := List Int × Int × Int × Int) (β := List Int × Int × Int) n (fun again205 (u_194, b_195, c_196, x_197) => (
 cdO (decide (x_197 < (v5.length : Int))) (
 gdO (inR x_197 v5.length) (
 gdO (inR (Fc (x_197 + j_21)) u_194.length) (
 cdO (decide ((Fc ((Fc ((Fc (gt u_194 (Fc (x_197 + j_21)))) - b_195)) - (Fc ((aa .u64 ((aa .u64 (g_164 * (aa .u64 (gt v5 x_197)))) + c_196)).tmod 1000000000)))) < 0)) (
 again205 (u_194.set (Fc (x_197 + j_21)).toNat (aa .u32 (Fc ((Fc ((Fc ((Fc (gt u_194 (Fc (x_197 + j_21)))) - b_195)) - (Fc ((aa .u64 ((aa .u64 (g_164 * (aa .u64 (gt v5 x_197)))) + c_196)).tmod 1000000000)))) + 1000000000))), 1, aa .u64 ((aa .u64 ((aa .u64 (g_164 * (aa .u64 (gt v5 x_197)))) + c_196)).tdiv 1000000000), Fc (x_197 + 1))
 ) (
 again205 (u_194.set (Fc (x_197 + j_21)).toNat (aa .u32 (Fc ((Fc ((Fc (gt u_194 (Fc (x_197 + j_21)))) - b_195)) - (Fc ((aa .u64 ((aa .u64 (g_164 * (aa .u64 (gt v5 x_197)))) + c_196)).tmod 1000000000))))), 0, aa .u64 ((aa .u64 ((aa .u64 (g_164 * (aa .u64 (gt v5 x_197)))) + c_196)).tdiv 1000000000), Fc (x_197 + 1))
 )
 )
 )
 ) (
 some ((u_194, b_195, c_196))
 )
 )) (u_20, 0, 0, 0)) fun o210 => (
 match o210 with
 | (u_202, b_203, c_204) => (
 gdO (inR (Fc (j_21 + (v5.length : Int))) u_202.length) (
 cdO (decide ((Fc ((Fc ((Fc (gt u_202 (Fc (j_21 + (v5.length : Int))))) - b_203)) - (Fc c_204))) < 0)) (
 bdO (aH (α := List Int × Int × Int) (β := List Int × Int) n (fun again224 (u_215, c_216, x_217) => (
 cdO (decide (x_217 < (v5.length : Int))) (
 gdO (inR (Fc (x_217 + j_21)) u_215.length) (
 gdO (inR x_217 v5.length) (
 cdO (decide ((aa .u32 ((aa .u32 ((gt u_215 (Fc (x_217 + j_21))) + (gt v5 x_217))) + c_216)) >= 1000000000)) (
 again224 (u_215.set (Fc (x_217 + j_21)).toNat (aa .u32 ((aa .u32 ((aa .u32 ((gt u_215 (Fc (x_217 + j_21))) + (gt v5 x_217))) + c_216)) - 1000000000)), 1, Fc (x_217 + 1))
 ) (
 again224 (u_215.set (Fc (x_217 + j_21)).toNat (aa .u32 ((aa .u32 ((gt u_215 (Fc (x_217 + j_21))) + (gt v5 x_217))) + c_216)), 0, Fc (x_217 + 1))
 )
 )
 )
 ) (
 some ((u_215, c_216))
 )
 )) (u_202.set (Fc (j_21 + (v5.length : Int))).toNat (aa .u32 (Fc ((Fc ((Fc ((Fc (gt u_202 (Fc (j_21 + (v5.length : Int))))) - b_203)) - (Fc c_204))) + 1000000000))), 0, 0)) fun o229 => (
 match o229 with
 | (u_222, c_223) => (
 gdO (inR (Fc (j_21 + (v5.length : Int))) u_222.length) (
 gdO (inR j_21 q_19.length) (
 again129 (q_19.set j_21.toNat (aa .u32 (aa .u64 (g_164 - 1))), u_222.set (Fc (j_21 + (v5.length : Int))).toNat ((aa .u32 ((gt u_222 (Fc (j_21 + (v5.length : Int)))) + c_223)).tmod 1000000000), Fc (j_21 - 1))
 )
 )
 ))
 ) (
 gdO (inR j_21 q_19.length) (
 again129 (q_19.set j_21.toNat (aa .u32 g_164), u_202.set (Fc (j_21 + (v5.length : Int))).toNat (aa .u32 (Fc ((Fc ((Fc (gt u_202 (Fc (j_21 + (v5.length : Int))))) - b_203)) - (Fc c_204)))), Fc (j_21 - 1))
 )
 )
 )
 ))
 )
 )
 )
 )
 )
 ) (
 some ((q_19, u_20))
 )
 )) (List.replicate (Fc ((u_9.length : Int) - (v5.length : Int))).toNat ((0 : Int) : Int), u_9, Fc ((Fc ((u_9.length : Int) - (v5.length : Int))) - 1))) fun o235 => (
 match o235 with
 | (q_127, u_128) => (
 gdO (inS 0 (v5.length : Int) u_128.length) (
 bdO (ei n (u_128.take (v5.length : Int).toNat)) fun v239 => (
 bdO (fz n v239 (aa .u32 (aa .u64 ((1000000000 : Int).tdiv (aa .u64 ((aa .u64 (gt b (Fc ((b.length : Int) - 1)))) + 1)))))) fun v241 => (
 bdO (ei n q_127) fun v243 => (
 some ((v243, v241.1))
 )
 )
 )
 )
 ))
 )
 )
 )
 )
 )
 )
 )
 )
 )
 )

def iq (n : Nat) (a : List Int) (b : List Int) : Option (List Int × List Int) :=
 bdO (fT n a b) fun v1 => (
 cdO (decide (v1 < 0)) (
 some (([], a))
 ) (
 bdO (hZ n a) fun v4 => (
 bdO (hZ n b) fun v6 => (
 cdO v4.2 (
 cdO v6.2 (
 gdO (!decide (v6.1 = 0)) (
 bdO (cX n (aa .u64 (v4.1.tdiv v6.1))) fun v11 => (
 bdO (cX n (v4.1.tmod v6.1)) fun v13 => (
 some ((v11, v13))
 )
 )
 )
 ) (
 cdO (((b.length : Int) : Int) == 1) (
 gdO (inR 0 b.length) (
 bdO (fz n a (gt b 0)) fun v17 => (
 bdO (cX n (aa .u64 v17.2)) fun v19 => (
 some ((v17.1, v19))
 )
 )
 )
 ) (
 bdO (jg n a b) fun v21 => (
 some ((v21.1, v21.2))
 )
 )
 )
 ) (
 cdO (((b.length : Int) : Int) == 1) (
 gdO (inR 0 b.length) (
 bdO (fz n a (gt b 0)) fun v25 => (
 bdO (cX n (aa .u64 v25.2)) fun v27 => (
 some ((v25.1, v27))
 )
 )
 )
 ) (
 bdO (jg n a b) fun v29 => (
 some ((v29.1, v29.2))
 )
 )
 )
 )
 )
 )
 )

def iW (n : Nat) (x' : ah) (y : ah) : Option (ah) :=
 bdO (bL n x') fun v1 => (
 bdO (bL n y) fun v3 => (
 bdO (aH (α := List Int × List Int) (β := Sum (List Int) (ah)) n (fun again34 (a_5, b_6) => (
 cdO (decide ((b_6.length : Int) > 0)) (
 bdO (hZ n a_5) fun v36 => (
 bdO (hZ n b_6) fun v38 => (
 cdO v36.2 (
 cdO v38.2 (
 bdO (aH (α := Int × Int) (β := Int) n (fun again47 (m_42, n_43) => (
 cdO (decide (n_43 > 0)) (
 gdO (!decide (n_43 = 0)) (
 again47 (n_43, m_42.tmod n_43)
 )
 ) (
 some (m_42)
 )
 )) (v36.1, v38.1)) fun m_46 => (
 bdO (cX n m_46) fun v53 => (
 bdO (bV n false v53) fun v55 => (
 some (Sum.inr (v55))
 )
 )
 )
 ) (
 bdO (iq n a_5 b_6) fun v57 => (
 again34 (b_6, v57.2)
 )
 )
 ) (
 bdO (iq n a_5 b_6) fun v59 => (
 again34 (b_6, v59.2)
 )
 )
 )
 )
 ) (
 some (Sum.inl a_5)
 )
 )) (v1, v3)) fun o61 => (
 match o61 with
 | .inl a_33 => (
 bdO (cB n a_33) fun v64 => (
 bdO (bV n false v64) fun v66 => (
 some (v66)
 )
 )
 )
 | .inr (r0) => (
 some r0
 ))
 )
 )

def kf (n : Nat) (a : List Int) (b : List Int) : Option (List Int) :=
 gdO (decide (0 <= Fc ((mx (a.length : Int) (b.length : Int)) + 1))) (
 gdO (decide ((4 : Int) * (Fc ((mx (a.length : Int) (b.length : Int)) + 1)) <= 281474976710656)) (
 gdO (decide (Fc ((mx (a.length : Int) (b.length : Int)) + 1) <= 9223372036854775807)) (
 bdO (aH (α := List Int × Int × Int) (β := List Int) n (fun again16 (o_4, c_5, x_6) => (
 cdO (decide (x_6 < ((List.replicate (Fc ((mx (a.length : Int) (b.length : Int)) + 1)).toNat ((0 : Int) : Int)).length : Int))) (
 bdO (gF n a x_6) fun v18 => (
 bdO (gF n b x_6) fun v20 => (
 cdO (decide ((aa .u32 ((aa .u32 (v18 + v20)) + c_5)) >= 1000000000)) (
 gdO (inR x_6 o_4.length) (
 again16 (o_4.set x_6.toNat (aa .u32 ((aa .u32 ((aa .u32 (v18 + v20)) + c_5)) - 1000000000)), 1, Fc (x_6 + 1))
 )
 ) (
 gdO (inR x_6 o_4.length) (
 again16 (o_4.set x_6.toNat (aa .u32 ((aa .u32 (v18 + v20)) + c_5)), 0, Fc (x_6 + 1))
 )
 )
 )
 )
 ) (
 some (o_4)
 )
 )) (List.replicate (Fc ((mx (a.length : Int) (b.length : Int)) + 1)).toNat ((0 : Int) : Int), 0, 0)) fun o_15 => (
 bdO (ei n o_15) fun v28 => (
 some (v28)
 )
 )
 )
 )
 )

def iA (n : Nat) (a : List Int) (b : List Int) : Option (List Int) :=
 gdO (decide (0 <= (a.length : Int))) (
 gdO (decide ((4 : Int) * (a.length : Int) <= 281474976710656)) (
 gdO (decide ((a.length : Int) <= 9223372036854775807)) (
 bdO (aH (α := List Int × Int × Int) (β := List Int) n (fun again15 (o_4, b_5, x_6) => (
 cdO (decide (x_6 < ((List.replicate (a.length : Int).toNat ((0 : Int) : Int)).length : Int))) (
 bdO (gF n b x_6) fun v17 => (
 gdO (inR x_6 a.length) (
 cdO (decide ((gt a x_6) < (aa .u32 (v17 + b_5)))) (
 gdO (inR x_6 o_4.length) (
 again15 (o_4.set x_6.toNat (aa .u32 ((aa .u32 ((gt a x_6) + 1000000000)) - (aa .u32 (v17 + b_5)))), 1, Fc (x_6 + 1))
 )
 ) (
 gdO (inR x_6 o_4.length) (
 again15 (o_4.set x_6.toNat (aa .u32 ((gt a x_6) - (aa .u32 (v17 + b_5)))), 0, Fc (x_6 + 1))
 )
 )
 )
 )
 ) (
 some (o_4)
 )
 )) (List.replicate (a.length : Int).toNat ((0 : Int) : Int), 0, 0)) fun o_14 => (
 bdO (ei n o_14) fun v26 => (
 some (v26)
 )
 )
 )
 )
 )

def dB (n : Nat) (x' : ah) (y : ah) : Option (ah × ah × Int) :=
 bdO (bL n x') fun v1 => (
 bdO (bL n y) fun v3 => (
 cdO (((v3.length : Int) : Int) == 0) (
 some ((ah.mk false [], ah.mk false [], 14))
 ) (
 bdO (iq n v1 v3) fun v6 => (
 bdO (cB n v6.2) fun v8 => (
 cdO (decide ((v8.length : Int) > 0)) (
 cdO (x'.Negative != y.Negative) (
 bdO (kf n v6.1 [(1 : Int)]) fun v12 => (
 bdO (iA n v3 v8) fun v14 => (
 bdO (bV n true v12) fun v16 => (
 bdO (bV n y.Negative v14) fun v18 => (
 some ((v16, v18, 0))
 )
 )
 )
 )
 ) (
 bdO (bV n false v6.1) fun v20 => (
 bdO (bV n y.Negative v8) fun v22 => (
 some ((v20, v22, 0))
 )
 )
 )
 ) (
 bdO (bV n (x'.Negative != y.Negative) v6.1) fun v24 => (
 bdO (bV n y.Negative v8) fun v26 => (
 some ((v24, v26, 0))
 )
 )
 )
 )
 )
 )
 )
 )

def eF (n : Nat) (num : ah) (den : ah) : Option (ag) :=
 bdO (dL n den) fun v1 => (
 cdO (decide (v1 < 0)) (
 bdO (eI n num) fun v4 => (
 bdO (eI n den) fun v6 => (
 bdO (iW n v4 v6) fun v8 => (
 bdO (dB n v4 v8) fun v10 => (
 bdO (dB n v6 v8) fun v12 => (
 some (ag.mk v10.1 v12.1)
 )
 )
 )
 )
 )
 ) (
 bdO (iW n num den) fun v14 => (
 bdO (dB n num v14) fun v16 => (
 bdO (dB n den v14) fun v18 => (
 some (ag.mk v16.1 v18.1)
 )
 )
 )
 )
 )

def lO (n : Nat) (num : ah) (den : ah) : Option (ag × Int) :=
 bdO (fr n num) fun v1 => (
 bdO (fr n den) fun v3 => (
 bdO (dL n v3) fun v5 => (
 cdO ((v5 : Int) == 0) (
 some ((ag.mk (ah.mk false []) (ah.mk false []), 14))
 ) (
 bdO (eF n v1 v3) fun v8 => (
 some ((v8, 0))
 )
 )
 )
 )
 )

def dW (n : Nat) (n' : Int) (d : Int) : Option (ag × Int) :=
 bdO (fV n n') fun v1 => (
 bdO (fV n d) fun v3 => (
 bdO (lO n v1 v3) fun v5 => (
 some ((v5.1, v5.2))
 )
 )
 )

def mf (n : Nat) (g : al) (level : Int) (e : A2 Int) : Option (ak) :=
 gdO (inR e.e0 g.Z.length) (
 gdO (inR e.e1 g.Z.length) (
 bdO (dW n (Fc (level - (Fc (2 * (gt g.Z e.e0))))) (Fc (2 * (Fc ((gt g.Z e.e1) - (gt g.Z e.e0)))))) fun v3 => (
 some (ak.mk e.e0 e.e1 v3.1)
 )
 )
 )

def fM (n : Nat) (start : A2 Int) (closed : Bool) (p : List (A2 Int × Bool)) (p' : Int) (p'' : Int) (AK : Int) (xk : Int) (iL : Int) (ln : List Int) (j7 : Int) (fK : List (A2 Int × A2 Int)) (fv : List ai) : Option (List (A2 Int × Bool) × List ai) :=
 bdO (aH (α := List (A2 Int × Bool) × List ak × Int × Int) (β := List (A2 Int × Bool) × List ak) n (fun again39 (p_27, c_28, a_29, a_30) => (
 bdO (mf n (al.mk p' p'' AK xk iL ln) j7 (A2.mk a_29 a_30)) fun v40 => (
 gdO (decide ((c_28.length + 1) * 80 <= 140737488355328)) (
 gdO (decide (c_28.length + 1 <= 4611686018427387904)) (
 cdO (!(qk fK (A2.mk a_29 a_30))) (
 some ((kq p_27 (A2.mk a_29 a_30) true, c_28 ++ [v40]))
 ) (
 cdO (getM false (kq p_27 (A2.mk a_29 a_30) true) (getM (A2.mk 0 0 : A2 Int) fK (A2.mk a_29 a_30))) (
 some ((kq p_27 (A2.mk a_29 a_30) true, c_28 ++ [v40]))
 ) (
 again39 (kq p_27 (A2.mk a_29 a_30) true, c_28 ++ [v40], (getM (A2.mk 0 0 : A2 Int) fK (A2.mk a_29 a_30)).e0, (getM (A2.mk 0 0 : A2 Int) fK (A2.mk a_29 a_30)).e1)
 )
 )
 )
 )
 )
 )) (p, [], start.e0, start.e1)) fun o46 => (
 match o46 with
 | (p_37, c_38) => (
 gdO (decide ((fv.length + 1) * 32 <= 140737488355328)) (
 gdO (decide (fv.length + 1 <= 4611686018427387904)) (
 some ((p_37, fv ++ [ai.mk closed c_38]))
 )
 )
 ))

def gl (n : Nat) (c : ai) : Option (A2 Int) :=
 gdO (inR 0 c.Points.length) (
 some (A2.mk (gt c.Points 0).A (gt c.Points 0).B)
 )

def mY (n : Nat) (a : ai) (b : ai) : Option (Int) :=
 bdO (gl n a) fun v1 => (
 bdO (gl n b) fun v3 => (
 bdO (gX n v1 v3) fun v5 => (
 some (v5)
 )
 )
 )

def bk (n : Nat) (data : List ai) (a : Int) (b : Int) : Option (List ai) :=
 bdO (aH (α := List ai × Int) (β := List ai) n (fun again72 (d_49, i_50) => (
 cdO (decide (i_50 < b)) (
 bdO (aH (α := List ai × Int) (β := List ai) n (fun again83 (d_74, j_75) => (
 cdO (decide (j_75 > a)) (
 gdO (inR j_75 d_74.length) (
 gdO (inR (Fc (j_75 - 1)) d_74.length) (
 bdO (mY n (gt d_74 j_75) (gt d_74 (Fc (j_75 - 1)))) fun v87 => (
 cdO (decide (v87 < 0)) (
 again83 ((d_74.set j_75.toNat (gt d_74 (Fc (j_75 - 1)))).set (Fc (j_75 - 1)).toNat (gt d_74 j_75), Fc (j_75 - 1))
 ) (
 some (d_74)
 )
 )
 )
 )
 ) (
 some (d_74)
 )
 )) (d_49, i_50)) fun d_82 => (
 again72 (d_82, Fc (i_50 + 1))
 )
 ) (
 some (d_49)
 )
 )) (data, Fc (a + 1))) fun d_71 => (
 some (d_71)
 )

def bB (n : Nat) (data : List ai) (a : Int) (b : Int) (limit : Int) : Option (List ai) :=
 bdO (aH (α := Int × Int × Int × Bool × Bool) (β := List ai) n (fun again31 (a_21, b_22, l_23, w_24, w_25) => (
 gdO ((decide ((Fc (b_22 - a_21)) <= 12))) (
 bdO (bk n data a_21 b_22) fun v33 => (
 some (v33)
 )
 )
 )) (a, b, limit, true, true)) fun r0 => (
 some r0
 )

def aS (n : Nat) (x' : List ai) : Option (List ai) :=
 bdO (kA n (aa .u64 (x'.length : Int))) fun v6 => (
 bdO (bB n x' 0 (x'.length : Int) v6) fun v8 => (
 some (v8)
 )
 )

noncomputable def iw (n : Nat) (g : al) (level : Int) : Option (List ai) :=
 bdO (bh n g g.X0 g.Y0 g.Step g.Width g.Height g.Z level ([] : List (A2 Int × A2 Int)) ([] : List (A2 Int × Bool))) fun v1 => (
 yu (ε := A2 Int × A2 Int) (σ := List (A2 Int)) v1.1 (fun s_16 e12 => (
 gdO (decide ((s_16.length + 1) * 16 <= 140737488355328)) (
 gdO (decide (s_16.length + 1 <= 4611686018427387904)) (
 some (s_16 ++ [e12.1])
 )
 )
 )) [] fun s_16 => (
 bdO (aK n s_16) fun v21 => (
 gdO (decide (v21.length = s_16.length)) (
 bdO (aH (α := List (A2 Int × Bool) × List ai × Int) (β := List (A2 Int × Bool) × List ai) n (fun again56 (d_45, o_46, x_47) => (
 cdO (decide (x_47 < (s_16.length : Int))) (
 gdO (inR x_47 v21.length) (
 cdO (!(getM false v1.2 (gt v21 x_47))) (
 bdO (fM n (gt v21 x_47) false d_45 g.X0 g.Y0 g.Step g.Width g.Height g.Z level v1.1 o_46) fun v61 => (
 again56 (v61.1, v61.2, Fc (x_47 + 1))
 )
 ) (
 again56 (d_45, o_46, Fc (x_47 + 1))
 )
 )
 ) (
 some ((d_45, o_46))
 )
 )) (([] : List (A2 Int × Bool)), [], 0)) fun o63 => (
 match o63 with
 | (d_54, o_55) => (
 bdO (aH (α := List (A2 Int × Bool) × List ai × Int) (β := List ai) n (fun again76 (d_66, o_67, x_68) => (
 cdO (decide (x_68 < (v21.length : Int))) (
 gdO (inR x_68 v21.length) (
 cdO (!(getM false d_66 (gt v21 x_68))) (
 bdO (fM n (gt v21 x_68) true d_66 g.X0 g.Y0 g.Step g.Width g.Height g.Z level v1.1 o_67) fun v81 => (
 again76 (v81.1, v81.2, Fc (x_68 + 1))
 )
 ) (
 again76 (d_66, o_67, Fc (x_68 + 1))
 )
 )
 ) (
 some (o_67)
 )
 )) (d_54, o_55, 0)) fun o_75 => (
 bdO (aS n o_75) fun v86 => (
 gdO (decide (v86.length = o_75.length)) (
 some (v86)
 )
 )
 )
 ))
 )
 )
 )
 )

noncomputable def kD (n : Nat) (g : al) (level : Int) : Option (List ai × Int) :=
 bdO (dF n g level) fun v1 => (
 cdO ((v1 : Int) != 0) (
 some (([], v1))
 ) (
 bdO (iw n g level) fun v4 => (
 some ((v4, 0))
 )
 )
 )

def bF (n : Nat) (n' : Int) : Option (ag) :=
 bdO (fV n n') fun v1 => (
 bdO (fV n 1) fun v3 => (
 some (ag.mk v1 v3)
 )
 )

def kz (n : Nat) (x' : Int) : Option (Bool) :=
 some ((x' : Int) != x')

def jl (n : Nat) (x' : Int) (y : Int) : Option (Int) :=
 bdO (kz n x') fun v1 => (
 bdO (kz n y) fun v3 => (
 cdO v1 (
 cdO v3 (
 some (0)
 ) (
 some ((-1))
 )
 ) (
 cdO v3 (
 some (1)
 ) (
 cdO (decide (x' < y)) (
 some ((-1))
 ) (
 cdO (decide (x' > y)) (
 some (1)
 ) (
 some (0)
 )
 )
 )
 )
 )
 )

def hO (n : Nat) (x' : ah) (y : ah) : Option (Int) :=
 bdO (dL n x') fun v1 => (
 bdO (dL n y) fun v3 => (
 cdO ((v1 : Int) != v3) (
 bdO (jl n v1 v3) fun v6 => (
 some (v6)
 )
 ) (
 bdO (bL n x') fun v8 => (
 bdO (bL n y) fun v10 => (
 bdO (fT n v8 v10) fun v12 => (
 cdO x'.Negative (
 some (Fc (0 - v12))
 ) (
 some (v12)
 )
 )
 )
 )
 )
 )
 )

def ee (n : Nat) (x' : ag) : Option (Bool) :=
 bdO (eL n x'.Num) fun v1 => (
 cdO (!v1) (
 some (false)
 ) (
 bdO (eL n x'.Den) fun v4 => (
 cdO (!v4) (
 some (false)
 ) (
 bdO (dL n x'.Den) fun v7 => (
 cdO (decide (v7 <= 0)) (
 some (false)
 ) (
 bdO (iW n x'.Num x'.Den) fun v10 => (
 bdO (fV n 1) fun v12 => (
 bdO (hO n v10 v12) fun v14 => (
 some ((v14 : Int) == 0)
 )
 )
 )
 )
 )
 )
 )
 )
 )

def jk (n : Nat) (x' : ag) : Option (ag) :=
 bdO (eI n x'.Num) fun v1 => (
 bdO (eI n v1) fun v3 => (
 bdO (eI n x'.Den) fun v5 => (
 bdO (eI n v5) fun v7 => (
 some (ag.mk v3 v7)
 )
 )
 )
 )

def cg (n : Nat) (x' : ag) : Option (ag) :=
 bdO (ee n x') fun v1 => (
 cdO v1 (
 bdO (jk n x') fun v4 => (
 some (v4)
 )
 ) (
 bdO (bF n 0) fun v6 => (
 some (v6)
 )
 )
 )

def aZ (n : Nat) (x' : ag) : Option (Int) :=
 bdO (cg n x') fun v1 => (
 bdO (dL n v1.Num) fun v3 => (
 some (v3)
 )
 )

def lW (n : Nat) (x' : ag) : Option (ag) :=
 bdO (cg n x') fun v1 => (
 bdO (eI n v1.Num) fun v3 => (
 some (ag.mk v3 v1.Den)
 )
 )

def dD (n : Nat) (x' : ah) (y : ah) : Option (ah) :=
 bdO (bL n x') fun v1 => (
 bdO (bL n y) fun v3 => (
 bdO (jy n v1 v3) fun v5 => (
 bdO (bV n (x'.Negative != y.Negative) v5) fun v7 => (
 some (v7)
 )
 )
 )
 )

def mK (n : Nat) (negative : Bool) (a : List Int) (other : Bool) (b : List Int) : Option (ah) :=
 cdO (negative == other) (
 bdO (kf n a b) fun v2 => (
 bdO (bV n negative v2) fun v4 => (
 some (v4)
 )
 )
 ) (
 bdO (fT n a b) fun v6 => (
 cdO (decide (v6 >= 0)) (
 bdO (iA n a b) fun v9 => (
 bdO (bV n negative v9) fun v11 => (
 some (v11)
 )
 )
 ) (
 bdO (iA n b a) fun v13 => (
 bdO (bV n other v13) fun v15 => (
 some (v15)
 )
 )
 )
 )
 )

def mC (n : Nat) (x' : ah) (y : ah) : Option (ah) :=
 bdO (bL n x') fun v1 => (
 bdO (bL n y) fun v3 => (
 bdO (mK n x'.Negative v1 y.Negative v3) fun v5 => (
 some (v5)
 )
 )
 )

def b7 (n : Nat) (x' : ag) (y : ag) : Option (ag) :=
 bdO (cg n x') fun v1 => (
 bdO (cg n y) fun v3 => (
 bdO (dD n v1.Num v3.Den) fun v5 => (
 bdO (dD n v3.Num v1.Den) fun v7 => (
 bdO (mC n v5 v7) fun v9 => (
 bdO (dD n v1.Den v3.Den) fun v11 => (
 bdO (eF n v9 v11) fun v13 => (
 some (v13)
 )
 )
 )
 )
 )
 )
 )

def c6 (n : Nat) (x' : ag) (y : ag) : Option (ag) :=
 bdO (lW n y) fun v1 => (
 bdO (b7 n x' v1) fun v3 => (
 some (v3)
 )
 )

def e9 (n : Nat) (p : ag) (p' : ag) (p'' : ag) (tip : ag) : Option (ag) :=
 bdO (bF n 1) fun v1 => (
 bdO (c6 n v1 tip) fun v3 => (
 some (v3)
 )
 )

def cP (n : Nat) (x' : ag) (y : ag) : Option (ag) :=
 bdO (cg n x') fun v1 => (
 bdO (cg n y) fun v3 => (
 bdO (dD n v1.Num v3.Num) fun v5 => (
 bdO (dD n v1.Den v3.Den) fun v7 => (
 bdO (eF n v5 v7) fun v9 => (
 some (v9)
 )
 )
 )
 )
 )

def gV (n : Nat) (x' : ag) (y : ag) : Option (ag × Int) :=
 bdO (cg n x') fun v1 => (
 bdO (cg n y) fun v3 => (
 bdO (dL n v3.Num) fun v5 => (
 cdO ((v5 : Int) == 0) (
 some ((ag.mk (ah.mk false []) (ah.mk false []), 14))
 ) (
 bdO (dD n v1.Num v3.Den) fun v8 => (
 bdO (dD n v1.Den v3.Num) fun v10 => (
 bdO (eF n v8 v10) fun v12 => (
 some ((v12, 0))
 )
 )
 )
 )
 )
 )
 )

def gk (n : Nat) (a : ag) (b : ag) (c : ag) : Option (ag) :=
 bdO (cP n a a) fun v1 => (
 bdO (c6 n a b) fun v3 => (
 bdO (c6 n a c) fun v5 => (
 bdO (cP n v3 v5) fun v7 => (
 bdO (gV n v1 v7) fun v9 => (
 some (v9.1)
 )
 )
 )
 )
 )

def iu (n : Nat) (t : A3 Int) (p : Int) (p' : Int) (p'' : Int) (AK : Int) (xk : Int) (iL : List Int) (ln : Int) (j7 : Bool) (fK : List Int) (fv : Bool) (ir : List Int) : Option (Bool × List Int × Bool × List Int) :=
 bdO (α := Bool × List Int × Bool × List Int × Int) (
 gdO (inR t.e0 iL.length) (
 bdO (dW n (Fc ((Fc (2 * (gt iL t.e0))) - ln)) 2) fun v285 => (
 bdO (aZ n v285.1) fun v287 => (
 cdO (decide (v287 > 0)) (
 some ((v285.1.Num.Negative, v285.1.Num.Groups, v285.1.Den.Negative, v285.1.Den.Groups, 1))
 ) (
 some ((v285.1.Num.Negative, v285.1.Num.Groups, v285.1.Den.Negative, v285.1.Den.Groups, 0))
 )
 )
 )
 )
 ) fun o290 => (
 match o290 with
 | (h_279, h_280, h_281, h_282, u_283) => (
 bdO (α := Bool × List Int × Bool × List Int × Int) (
 gdO (inR t.e1 iL.length) (
 bdO (dW n (Fc ((Fc (2 * (gt iL t.e1))) - ln)) 2) fun v299 => (
 bdO (aZ n v299.1) fun v301 => (
 cdO (decide (v301 > 0)) (
 some ((v299.1.Num.Negative, v299.1.Num.Groups, v299.1.Den.Negative, v299.1.Den.Groups, Fc (u_283 + 1)))
 ) (
 some ((v299.1.Num.Negative, v299.1.Num.Groups, v299.1.Den.Negative, v299.1.Den.Groups, u_283))
 )
 )
 )
 )
 ) fun o304 => (
 match o304 with
 | (h_293, h_294, h_295, h_296, u_297) => (
 bdO (α := Bool × List Int × Bool × List Int × Int) (
 gdO (inR t.e2 iL.length) (
 bdO (dW n (Fc ((Fc (2 * (gt iL t.e2))) - ln)) 2) fun v313 => (
 bdO (aZ n v313.1) fun v315 => (
 cdO (decide (v315 > 0)) (
 some ((v313.1.Num.Negative, v313.1.Num.Groups, v313.1.Den.Negative, v313.1.Den.Groups, Fc (u_297 + 1)))
 ) (
 some ((v313.1.Num.Negative, v313.1.Num.Groups, v313.1.Den.Negative, v313.1.Den.Groups, u_297))
 )
 )
 )
 )
 ) fun o318 => (
 match o318 with
 | (h_307, h_308, h_309, h_310, u_311) => (
 cdO ((u_311 : Int) == 0) (
 some ((j7, fK, fv, ir))
 ) (
 cdO ((u_311 : Int) == 3) (
 bdO (bF n 0) fun v346 => (
 bdO (e9 n (ag.mk (ah.mk h_279 h_280) (ah.mk h_281 h_282)) (ag.mk (ah.mk h_293 h_294) (ah.mk h_295 h_296)) (ag.mk (ah.mk h_307 h_308) (ah.mk h_309 h_310)) v346) fun v348 => (
 bdO (b7 n (ag.mk (ah.mk j7 fK) (ah.mk fv ir)) v348) fun v350 => (
 some ((v350.Num.Negative, v350.Num.Groups, v350.Den.Negative, v350.Den.Groups))
 )
 )
 )
 ) (
 bdO (aH (α := Bool × List Int × Bool × List Int × Bool × List Int × Bool × List Int × Bool × List Int × Bool × List Int) (β := Bool × List Int × Bool × List Int × Bool × List Int × Bool × List Int × Bool × List Int × Bool × List Int) n (fun again443 (h_406, h_407, h_408, h_409, h_410, h_411, h_412, h_413, h_414, h_415, h_416, h_417) => (
 bdO (α := Sum (Unit) (Unit)) (
 bdO (aZ n (ag.mk (ah.mk h_406 h_407) (ah.mk h_408 h_409))) fun v446 => (
 cdO ((decide (v446 > 0)) != ((u_311 : Int) == 1)) (
 some (Sum.inr (()))
 ) (
 bdO (aZ n (ag.mk (ah.mk h_410 h_411) (ah.mk h_412 h_413))) fun v449 => (
 bdO (aZ n (ag.mk (ah.mk h_414 h_415) (ah.mk h_416 h_417))) fun v451 => (
 cdO ((decide (v449 > 0)) != (decide (v451 > 0))) (
 some (Sum.inr (()))
 ) (
 some (Sum.inl ())
 )
 )
 )
 )
 )
 ) fun o454 => (
 match o454 with
 | .inl _ => (
 some ((h_406, h_407, h_408, h_409, h_410, h_411, h_412, h_413, h_414, h_415, h_416, h_417))
 )
 | .inr (_) => (
 again443 (h_410, h_411, h_412, h_413, h_414, h_415, h_416, h_417, h_406, h_407, h_408, h_409)
 ))
 )) (h_279, h_280, h_281, h_282, h_293, h_294, h_295, h_296, h_307, h_308, h_309, h_310)) fun o457 => (
 match o457 with
 | (h_431, h_432, h_433, h_434, h_435, h_436, h_437, h_438, h_439, h_440, h_441, h_442) => (
 bdO (gk n (ag.mk (ah.mk h_431 h_432) (ah.mk h_433 h_434)) (ag.mk (ah.mk h_435 h_436) (ah.mk h_437 h_438)) (ag.mk (ah.mk h_439 h_440) (ah.mk h_441 h_442))) fun v460 => (
 cdO ((u_311 : Int) == 2) (
 bdO (e9 n (ag.mk (ah.mk h_431 h_432) (ah.mk h_433 h_434)) (ag.mk (ah.mk h_435 h_436) (ah.mk h_437 h_438)) (ag.mk (ah.mk h_439 h_440) (ah.mk h_441 h_442)) v460) fun v463 => (
 bdO (b7 n (ag.mk (ah.mk j7 fK) (ah.mk fv ir)) v463) fun v465 => (
 some ((v465.Num.Negative, v465.Num.Groups, v465.Den.Negative, v465.Den.Groups))
 )
 )
 ) (
 bdO (b7 n (ag.mk (ah.mk j7 fK) (ah.mk fv ir)) v460) fun v467 => (
 some ((v467.Num.Negative, v467.Num.Groups, v467.Den.Negative, v467.Den.Groups))
 )
 )
 )
 ))
 )
 )
 ))
 ))
 ))

def b6 (n : Nat) (g : al) (c : Int) (c' : Int) (c'' : Int) (wF : Int) (rX : Int) (ox : List Int) (mi : Int) (qY : Bool) (pw : List Int) (sK : Bool) (qK : List Int) : Option (Bool × List Int × Bool × List Int) :=
 bdO (aH (α := Bool × List Int × Bool × List Int × Int) (β := Bool × List Int × Bool × List Int) n (fun again318 (c_212, c_213, c_214, c_215, x_216) => (
 cdO (decide (x_216 < (Fc (g.Height - 1)))) (
 bdO (aH (α := Bool × List Int × Bool × List Int × Int) (β := Bool × List Int × Bool × List Int) n (fun again371 (c_321, c_322, c_323, c_324, x_325) => (
 cdO (decide (x_325 < (Fc (g.Width - 1)))) (
 bdO (some (Fc ((Fc (x_216 * g.Width)) + x_325))) fun w374 => (
 bdO (some [A3.mk w374 (Fc (w374 + 1)) (Fc ((Fc (w374 + g.Width)) + 1)), A3.mk w374 (Fc ((Fc (w374 + g.Width)) + 1)) (Fc (w374 + g.Width))]) fun w376 => (
 bdO (aH (α := Bool × List Int × Bool × List Int × Int) (β := Bool × List Int × Bool × List Int) n (fun again398 (c_378, c_379, c_380, c_381, x_382) => (
 cdO (decide (x_382 < 2)) (
 gdO (inR x_382 w376.length) (
 gdO (inR (gt w376 x_382).e0 g.Z.length) (
 cdO (((gt g.Z (gt w376 x_382).e0) : Int) != (-2147483648)) (
 gdO (inR (gt w376 x_382).e1 g.Z.length) (
 cdO (((gt g.Z (gt w376 x_382).e1) : Int) != (-2147483648)) (
 gdO (inR (gt w376 x_382).e2 g.Z.length) (
 cdO (((gt g.Z (gt w376 x_382).e2) : Int) != (-2147483648)) (
 bdO (iu n (gt w376 x_382) c c' c'' wF rX ox mi c_378 c_379 c_380 c_381) fun v408 => (
 again398 (v408.1, v408.2.1, v408.2.2.1, v408.2.2.2, Fc (x_382 + 1))
 )
 ) (
 again398 (c_378, c_379, c_380, c_381, Fc (x_382 + 1))
 )
 )
 ) (
 again398 (c_378, c_379, c_380, c_381, Fc (x_382 + 1))
 )
 )
 ) (
 again398 (c_378, c_379, c_380, c_381, Fc (x_382 + 1))
 )
 )
 )
 ) (
 some ((c_378, c_379, c_380, c_381))
 )
 )) (c_321, c_322, c_323, c_324, 0)) fun o410 => (
 match o410 with
 | (c_394, c_395, c_396, c_397) => (
 again371 (c_394, c_395, c_396, c_397, Fc (x_325 + 1))
 ))
 )
 )
 ) (
 some ((c_321, c_322, c_323, c_324))
 )
 )) (c_212, c_213, c_214, c_215, 0)) fun o413 => (
 match o413 with
 | (c_367, c_368, c_369, c_370) => (
 again318 (c_367, c_368, c_369, c_370, Fc (x_216 + 1))
 ))
 ) (
 some ((c_212, c_213, c_214, c_215))
 )
 )) (qY, pw, sK, qK, 0)) fun o416 => (
 match o416 with
 | (c_314, c_315, c_316, c_317) => (
 some ((c_314, c_315, c_316, c_317))
 ))

def bj (n : Nat) (g : al) (level : Int) : Option (ag) :=
 bdO (bF n 0) fun v1 => (
 bdO (b6 n g g.X0 g.Y0 g.Step g.Width g.Height g.Z level v1.Num.Negative v1.Num.Groups v1.Den.Negative v1.Den.Groups) fun v3 => (
 bdO (dW n (Fc (g.Step * g.Step)) 2) fun v5 => (
 bdO (cP n (ag.mk (ah.mk v3.1 v3.2.1) (ah.mk v3.2.2.1 v3.2.2.2)) v5.1) fun v7 => (
 some (v7)
 )
 )
 )
 )

def gr (n : Nat) (g : al) (level : Int) : Option (ag × Int) :=
 bdO (dF n g level) fun v1 => (
 cdO ((v1 : Int) != 0) (
 some ((ag.mk (ah.mk false []) (ah.mk false []), v1))
 ) (
 bdO (bj n g level) fun v4 => (
 some ((v4, 0))
 )
 )
 )

def j3 (n : Nat) (s : List Int) (v : Int) : Option (Int) :=
 bdO (aH (α := Int) (β := Sum (Unit) (Int)) n (fun again5 x_1 => (
 cdO (decide (x_1 < (s.length : Int))) (
 gdO (inR x_1 s.length) (
 cdO ((v : Int) == (gt s x_1)) (
 some (Sum.inr (x_1))
 ) (
 again5 (Fc (x_1 + 1))
 )
 )
 ) (
 some (Sum.inl ())
 )
 )) 0) fun o9 => (
 match o9 with
 | .inl _ => (
 some ((-1))
 )
 | .inr (r0) => (
 some r0
 ))

def dy (n : Nat) (s : List Int) (v : Int) : Option (Bool) :=
 bdO (j3 n s v) fun v1 => (
 some (decide (v1 >= 0))
 )

def kL (n : Nat) (t : A3 Int) (p : Bool) (p' : Int) (p'' : Int) : Option (Bool) :=
 cdO p (
 some (true)
 ) (
 bdO (dy n [t.e0, t.e1, t.e2] p') fun v9 => (
 cdO v9 (
 bdO (dy n [t.e0, t.e1, t.e2] p'') fun v12 => (
 some (v12)
 )
 ) (
 some (false)
 )
 )
 )

def dw (n : Nat) (g : al) (c : Bool) (c' : Int) (c'' : Int) : Option (Bool) :=
 bdO (aH (α := Bool × Int) (β := Bool) n (fun again249 (c_167, x_168) => (
 cdO (decide (x_168 < (Fc (g.Height - 1)))) (
 bdO (aH (α := Bool × Int) (β := Bool) n (fun again290 (c_252, x_253) => (
 cdO (decide (x_253 < (Fc (g.Width - 1)))) (
 bdO (some (Fc ((Fc (x_168 * g.Width)) + x_253))) fun w293 => (
 bdO (some [A3.mk w293 (Fc (w293 + 1)) (Fc ((Fc (w293 + g.Width)) + 1)), A3.mk w293 (Fc ((Fc (w293 + g.Width)) + 1)) (Fc (w293 + g.Width))]) fun w295 => (
 bdO (aH (α := Bool × Int) (β := Bool) n (fun again311 (c_297, x_298) => (
 cdO (decide (x_298 < 2)) (
 gdO (inR x_298 w295.length) (
 gdO (inR (gt w295 x_298).e0 g.Z.length) (
 cdO (((gt g.Z (gt w295 x_298).e0) : Int) != (-2147483648)) (
 gdO (inR (gt w295 x_298).e1 g.Z.length) (
 cdO (((gt g.Z (gt w295 x_298).e1) : Int) != (-2147483648)) (
 gdO (inR (gt w295 x_298).e2 g.Z.length) (
 cdO (((gt g.Z (gt w295 x_298).e2) : Int) != (-2147483648)) (
 bdO (kL n (gt w295 x_298) c_297 c' c'') fun v321 => (
 again311 (v321, Fc (x_298 + 1))
 )
 ) (
 again311 (c_297, Fc (x_298 + 1))
 )
 )
 ) (
 again311 (c_297, Fc (x_298 + 1))
 )
 )
 ) (
 again311 (c_297, Fc (x_298 + 1))
 )
 )
 )
 ) (
 some (c_297)
 )
 )) (c_252, 0)) fun c_310 => (
 again290 (c_310, Fc (x_253 + 1))
 )
 )
 )
 ) (
 some (c_252)
 )
 )) (c_167, 0)) fun c_289 => (
 again249 (c_289, Fc (x_168 + 1))
 )
 ) (
 some (c_167)
 )
 )) (c, 0)) fun c_248 => (
 some (c_248)
 )

def nA (n : Nat) (g : al) (a : Int) (b : Int) : Option (Bool) :=
 cdO (decide (a < 0)) (
 some (false)
 ) (
 cdO (decide (a >= b)) (
 some (false)
 ) (
 cdO (decide (b >= (g.Z.length : Int))) (
 some (false)
 ) (
 bdO (dw n g false a b) fun v4 => (
 some (v4)
 )
 )
 )
 )

def kj (n : Nat) (x' : ag) (y : ag) : Option (Int) :=
 bdO (cg n x') fun v1 => (
 bdO (cg n y) fun v3 => (
 bdO (dD n v1.Num v3.Den) fun v5 => (
 bdO (dD n v3.Num v1.Den) fun v7 => (
 bdO (hO n v5 v7) fun v9 => (
 some (v9)
 )
 )
 )
 )
 )

def gY (n : Nat) (a : Int) (b : Int) (p : Int) (p' : Int) (p'' : Bool) (AK : List Int) (xk : Bool) (iL : List Int) : Option (ag) :=
 bdO (bF n a) fun v1 => (
 bdO (bF n (Fc (b - a))) fun v3 => (
 bdO (cP n (ag.mk (ah.mk p'' AK) (ah.mk xk iL)) v3) fun v5 => (
 bdO (b7 n v1 v5) fun v7 => (
 some (v7)
 )
 )
 )
 )

def oD (n : Nat) (g : al) (c : ak) : Option (aJ × Int) :=
 bdO (nA n g c.A c.B) fun v1 => (
 cdO (!v1) (
 some ((aJ.mk (ag.mk (ah.mk false []) (ah.mk false [])) (ag.mk (ah.mk false []) (ah.mk false [])), 6))
 ) (
 bdO (ee n c.At) fun v5 => (
 cdO (!v5) (
 some ((aJ.mk (ag.mk (ah.mk false []) (ah.mk false [])) (ag.mk (ah.mk false []) (ah.mk false [])), 1))
 ) (
 bdO (α := Bool) (
 bdO (aZ n c.At) fun v12 => (
 cdO (decide (v12 < 0)) (
 some (true)
 ) (
 bdO (bF n 1) fun v15 => (
 bdO (kj n c.At v15) fun v17 => (
 some (decide (v17 > 0))
 )
 )
 )
 )
 ) fun x_11 => (
 cdO x_11 (
 some ((aJ.mk (ag.mk (ah.mk false []) (ah.mk false [])) (ag.mk (ah.mk false []) (ah.mk false [])), 2))
 ) (
 gdO (!decide (g.Width = 0)) (
 bdO (gY n (Fc (g.X0 + (Fc ((c.A.tmod g.Width) * g.Step)))) (Fc (g.X0 + (Fc ((c.B.tmod g.Width) * g.Step)))) c.A c.B c.At.Num.Negative c.At.Num.Groups c.At.Den.Negative c.At.Den.Groups) fun v25 => (
 bdO (gY n (Fc (g.Y0 + (Fc ((Fc (c.A.tdiv g.Width)) * g.Step)))) (Fc (g.Y0 + (Fc ((Fc (c.B.tdiv g.Width)) * g.Step)))) c.A c.B c.At.Num.Negative c.At.Num.Groups c.At.Den.Negative c.At.Den.Groups) fun v27 => (
 some ((aJ.mk v25 v27, 0))
 )
 )
 )
 )
 )
 )
 )
 )
 )

def nY (n : Nat) (g : al) (c : ai) : Option (List aJ × Int) :=
 bdO (aH (α := List aJ × Int) (β := Sum (List aJ) (List aJ × Int)) n (fun again12 (o_1, x_2) => (
 cdO (decide (x_2 < (c.Points.length : Int))) (
 gdO (inR x_2 c.Points.length) (
 bdO (oD n g (gt c.Points x_2)) fun v16 => (
 cdO ((v16.2 : Int) != 0) (
 some (Sum.inr (([], v16.2)))
 ) (
 gdO (decide ((o_1.length + 1) * 128 <= 140737488355328)) (
 gdO (decide (o_1.length + 1 <= 4611686018427387904)) (
 again12 (o_1 ++ [v16.1], Fc (x_2 + 1))
 )
 )
 )
 )
 )
 ) (
 some (Sum.inl o_1)
 )
 )) ([], 0)) fun o21 => (
 match o21 with
 | .inl o_11 => (
 some ((o_11, 0))
 )
 | .inr (r0) => (
 some r0
 ))

def mV (n : Nat) (polygon : List aJ) (o : aJ) : Option (Int × Bool) :=
 bdO (aH (α := Int × Int) (β := Sum (Int) (Int × Bool)) n (fun again52 (n_1, x_2) => (
 cdO (decide (x_2 < (polygon.length : Int))) (
 gdO (inR x_2 polygon.length) (
 gdO (!decide ((polygon.length : Int) = 0)) (
 gdO (inR ((Fc (x_2 + 1)).tmod (polygon.length : Int)) polygon.length) (
 bdO (c6 n (gt polygon x_2).X o.X) fun v58 => (
 bdO (c6 n (gt polygon x_2).Y o.Y) fun v60 => (
 bdO (c6 n (gt polygon ((Fc (x_2 + 1)).tmod (polygon.length : Int))).X o.X) fun v62 => (
 bdO (c6 n (gt polygon ((Fc (x_2 + 1)).tmod (polygon.length : Int))).Y o.Y) fun v64 => (
 bdO (cP n v58 v64) fun v66 => (
 bdO (cP n v60 v62) fun v68 => (
 bdO (c6 n v66 v68) fun v70 => (
 bdO (aZ n v70) fun v72 => (
 bdO (α := Sum (Unit) (Int × Bool)) (
 cdO ((v72 : Int) == 0) (
 bdO (cP n v58 v62) fun v75 => (
 bdO (cP n v60 v64) fun v77 => (
 bdO (b7 n v75 v77) fun v79 => (
 bdO (aZ n v79) fun v81 => (
 cdO (decide (v81 <= 0)) (
 some (Sum.inr ((0, true)))
 ) (
 some (Sum.inl ())
 )
 )
 )
 )
 )
 ) (
 some (Sum.inl ())
 )
 ) fun o84 => (
 match o84 with
 | .inl _ => (
 bdO (aZ n v60) fun v87 => (
 bdO (aZ n v64) fun v89 => (
 bdO (α := Bool) (
 cdO (decide (v87 <= 0)) (
 cdO (!(decide (v89 <= 0))) (
 some (decide (v72 > 0))
 ) (
 some (false)
 )
 ) (
 some (false)
 )
 ) fun x_91 => (
 cdO x_91 (
 again52 (Fc (n_1 + 1), Fc (x_2 + 1))
 ) (
 cdO (!(decide (v87 <= 0))) (
 cdO (decide (v89 <= 0)) (
 cdO (decide (v72 < 0)) (
 again52 (Fc (n_1 - 1), Fc (x_2 + 1))
 ) (
 again52 (n_1, Fc (x_2 + 1))
 )
 ) (
 again52 (n_1, Fc (x_2 + 1))
 )
 ) (
 again52 (n_1, Fc (x_2 + 1))
 )
 )
 )
 )
 )
 )
 | .inr (r0) => (
 some (Sum.inr (r0))
 ))
 )
 )
 )
 )
 )
 )
 )
 )
 )
 )
 )
 ) (
 some (Sum.inl n_1)
 )
 )) (0, 0)) fun o101 => (
 match o101 with
 | .inl n_51 => (
 some ((n_51, false))
 )
 | .inr (r0) => (
 some r0
 ))

def oz (n : Nat) (g : al) (l : ai) (i : Int) (j : Int) : Option (Int × Int) :=
 bdO (jC n g) fun v1 => (
 cdO ((v1 : Int) != 0) (
 some ((0, v1))
 ) (
 bdO (α := Bool) (
 cdO (decide (i < 0)) (
 some (true)
 ) (
 cdO (decide (i >= g.Width)) (
 some (true)
 ) (
 cdO (decide (j < 0)) (
 some (true)
 ) (
 some (decide (j >= g.Height))
 )
 )
 )
 ) fun x_5 => (
 cdO x_5 (
 some ((0, 2))
 ) (
 cdO (!l.Closed) (
 some ((0, 11))
 ) (
 bdO (nY n g l) fun v16 => (
 cdO ((v16.2 : Int) != 0) (
 some ((0, v16.2))
 ) (
 bdO (bF n (Fc (g.X0 + (Fc (i * g.Step))))) fun v20 => (
 bdO (bF n (Fc (g.Y0 + (Fc (j * g.Step))))) fun v22 => (
 bdO (mV n v16.1 (aJ.mk v20 v22)) fun v24 => (
 cdO v24.2 (
 some ((0, 13))
 ) (
 cdO (((v16.1.length : Int) : Int) == 0) (
 some ((0, 13))
 ) (
 some ((v24.1, 0))
 )
 )
 )
 )
 )
 )
 )
 )
 )
 )
 )
 )

def aR (n : Nat) (negative : Bool) (l : List Int) : Option (ah) :=
 bdO (aH (α := Int) (β := Int) n (fun again6 n_1 => (
 cdO (decide (n_1 > 0)) (
 gdO (inR (Fc (n_1 - 1)) l.length) (
 cdO (((gt l (Fc (n_1 - 1))) : Int) == 0) (
 again6 (Fc (n_1 - 1))
 ) (
 some (n_1)
 )
 )
 ) (
 some (n_1)
 )
 )) (l.length : Int)) fun n_5 => (
 cdO negative (
 gdO (inS 0 n_5 l.length) (
 gdO (decide ((0 + ((l.drop (0 : Int).toNat).take (n_5.toNat - (0 : Int).toNat)).length) * 4 <= 140737488355328)) (
 gdO (decide (0 + ((l.drop (0 : Int).toNat).take (n_5.toNat - (0 : Int).toNat)).length <= 4611686018427387904)) (
 some (ah.mk (decide (n_5 > 0)) ((l.drop (0 : Int).toNat).take (n_5.toNat - (0 : Int).toNat)))
 )
 )
 )
 ) (
 gdO (inS 0 n_5 l.length) (
 gdO (decide ((0 + ((l.drop (0 : Int).toNat).take (n_5.toNat - (0 : Int).toNat)).length) * 4 <= 140737488355328)) (
 gdO (decide (0 + ((l.drop (0 : Int).toNat).take (n_5.toNat - (0 : Int).toNat)).length <= 4611686018427387904)) (
 some (ah.mk false ((l.drop (0 : Int).toNat).take (n_5.toNat - (0 : Int).toNat)))
 )
 )
 )
 )
 )

def gv (n : Nat) (n' : Int) : Option (ah) :=
 cdO (decide (n' < 0)) (
 bdO (aH (α := Int × List Int) (β := List Int) n (fun again8 (u_2, l_3) => (
 cdO (decide (u_2 > 0)) (
 gdO (decide ((l_3.length + 1) * 4 <= 140737488355328)) (
 gdO (decide (l_3.length + 1 <= 4611686018427387904)) (
 again8 (aa .u64 (u_2.tdiv 1000000000), l_3 ++ [aa .u32 (u_2.tmod 1000000000)])
 )
 )
 ) (
 some (l_3)
 )
 )) (aa .u64 ((aa .u64 (Fc (0 - (Fc (n' + 1))))) + 1), [])) fun l_7 => (
 bdO (aR n true l_7) fun v15 => (
 some (v15)
 )
 )
 ) (
 bdO (aH (α := Int × List Int) (β := List Int) n (fun again23 (u_17, l_18) => (
 cdO (decide (u_17 > 0)) (
 gdO (decide ((l_18.length + 1) * 4 <= 140737488355328)) (
 gdO (decide (l_18.length + 1 <= 4611686018427387904)) (
 again23 (aa .u64 (u_17.tdiv 1000000000), l_18 ++ [aa .u32 (u_17.tmod 1000000000)])
 )
 )
 ) (
 some (l_18)
 )
 )) (aa .u64 n', [])) fun l_22 => (
 bdO (aR n false l_22) fun v30 => (
 some (v30)
 )
 )
 )

def ch (n : Nat) (n' : Int) : Option (ah) :=
 bdO (gv n n') fun v1 => (
 some (v1)
 )

def cQ (n : Nat) (x' : ah) : Option (Bool) :=
 bdO (aH (α := Int) (β := Sum (Unit) (Bool)) n (fun again5 i_1 => (
 cdO (decide (i_1 < (x'.Groups.length : Int))) (
 gdO (inR i_1 x'.Groups.length) (
 cdO (decide ((gt x'.Groups i_1) >= 1000000000)) (
 some (Sum.inr (false))
 ) (
 again5 (Fc (i_1 + 1))
 )
 )
 ) (
 some (Sum.inl ())
 )
 )) 0) fun o9 => (
 match o9 with
 | .inl _ => (
 cdO (((x'.Groups.length : Int) : Int) == 0) (
 some (!x'.Negative)
 ) (
 gdO (inR (Fc ((x'.Groups.length : Int) - 1)) x'.Groups.length) (
 some (((gt x'.Groups (Fc ((x'.Groups.length : Int) - 1))) : Int) != 0)
 )
 )
 )
 | .inr (r0) => (
 some r0
 ))

def bg (n : Nat) (x' : ah) : Option (ah) :=
 bdO (cQ n x') fun v1 => (
 cdO (!v1) (
 some (ah.mk false [])
 ) (
 gdO (decide ((0 + x'.Groups.length) * 4 <= 140737488355328)) (
 gdO (decide (0 + x'.Groups.length <= 4611686018427387904)) (
 some (x')
 )
 )
 )
 )

def cJ (n : Nat) (x' : ah) : Option (Int) :=
 bdO (bg n x') fun v1 => (
 cdO (((v1.Groups.length : Int) : Int) == 0) (
 some (0)
 ) (
 cdO v1.Negative (
 some ((-1))
 ) (
 some (1)
 )
 )
 )

def eY (n : Nat) (a : List Int) (d : Int) : Option (List Int × Int) :=
 gdO (decide (0 <= (a.length : Int))) (
 gdO (decide ((4 : Int) * (a.length : Int) <= 281474976710656)) (
 gdO (decide ((a.length : Int) <= 9223372036854775807)) (
 bdO (aH (α := List Int × Int × Int) (β := List Int × Int) n (fun again13 (q_4, r_5, i_6) => (
 cdO (decide (i_6 >= 0)) (
 gdO (inR i_6 a.length) (
 gdO (!decide (d = 0)) (
 gdO (inR i_6 q_4.length) (
 again13 (q_4.set i_6.toNat (aa .u32 (aa .u64 ((aa .u64 ((aa .u64 (r_5 * 1000000000)) + (aa .u64 (gt a i_6)))).tdiv d))), (aa .u64 ((aa .u64 (r_5 * 1000000000)) + (aa .u64 (gt a i_6)))).tmod d, Fc (i_6 - 1))
 )
 )
 )
 ) (
 some ((q_4, r_5))
 )
 )) (List.replicate (a.length : Int).toNat ((0 : Int) : Int), 0, Fc ((a.length : Int) - 1))) fun o18 => (
 match o18 with
 | (q_11, r_12) => (
 bdO (aR n false q_11) fun v21 => (
 some ((v21.Groups, r_12))
 )
 ))
 )
 )
 )

def c7 (n : Nat) (a : List Int) (b : List Int) : Option (Int) :=
 cdO (((a.length : Int) : Int) != (b.length : Int)) (
 cdO (decide ((a.length : Int) < (b.length : Int))) (
 some ((-1))
 ) (
 some (1)
 )
 ) (
 bdO (aH (α := Int) (β := Sum (Unit) (Int)) n (fun again9 i_3 => (
 cdO (decide (i_3 >= 0)) (
 gdO (inR i_3 a.length) (
 gdO (inR i_3 b.length) (
 cdO (decide ((gt a i_3) < (gt b i_3))) (
 some (Sum.inr ((-1)))
 ) (
 cdO (decide ((gt a i_3) > (gt b i_3))) (
 some (Sum.inr (1))
 ) (
 again9 (Fc (i_3 - 1))
 )
 )
 )
 )
 ) (
 some (Sum.inl ())
 )
 )) (Fc ((a.length : Int) - 1))) fun o15 => (
 match o15 with
 | .inl _ => (
 some (0)
 )
 | .inr (r0) => (
 some r0
 ))
 )

def cr (n : Nat) (a : List Int) (d : Int) : Option (List Int) :=
 bdO (aH (α := List Int × Int × Int) (β := List Int × Int) n (fun again10 (o_1, c_2, i_3) => (
 cdO (decide (i_3 < (a.length : Int))) (
 gdO (inR i_3 a.length) (
 gdO (decide ((o_1.length + 1) * 4 <= 140737488355328)) (
 gdO (decide (o_1.length + 1 <= 4611686018427387904)) (
 again10 (o_1 ++ [aa .u32 ((aa .u64 ((aa .u64 ((aa .u64 (gt a i_3)) * d)) + c_2)).tmod 1000000000)], aa .u64 ((aa .u64 ((aa .u64 ((aa .u64 (gt a i_3)) * d)) + c_2)).tdiv 1000000000), Fc (i_3 + 1))
 )
 )
 )
 ) (
 some ((o_1, c_2))
 )
 )) ([], 0, 0)) fun o15 => (
 match o15 with
 | (o_8, c_9) => (
 gdO (decide ((o_8.length + 1) * 4 <= 140737488355328)) (
 gdO (decide (o_8.length + 1 <= 4611686018427387904)) (
 bdO (aR n false (o_8 ++ [aa .u32 c_9])) fun v20 => (
 some (v20.Groups)
 )
 )
 )
 ))

def dY (n : Nat) (a : List Int) (d : Int) : Option (List Int) :=
 gdO (decide ((1 + a.length) * 4 <= 140737488355328)) (
 gdO (decide (1 + a.length <= 4611686018427387904)) (
 bdO (aR n false ([d] ++ a)) fun v3 => (
 some (v3.Groups)
 )
 )
 )

def aV (n : Nat) (l : List Int) (i : Int) : Option (Int) :=
 cdO (decide (i < (l.length : Int))) (
 gdO (inR i l.length) (
 some (aa .u64 (gt l i))
 )
 ) (
 some (0)
 )

def cj (n : Nat) (a : List Int) (b : List Int) : Option (List Int) :=
 bdO (aH (α := List Int × Int × Int) (β := List Int) n (fun again12 (o_1, b_2, i_3) => (
 cdO (decide (i_3 < (a.length : Int))) (
 bdO (aV n a i_3) fun v14 => (
 bdO (aV n b i_3) fun v16 => (
 gdO (decide ((o_1.length + 1) * 4 <= 140737488355328)) (
 gdO (decide (o_1.length + 1 <= 4611686018427387904)) (
 again12 (o_1 ++ [aa .u32 ((aa .u64 ((aa .u64 ((aa .u64 (1000000000 + v14)) - v16)) - b_2)).tmod 1000000000)], aa .u64 (1 - (aa .u64 ((aa .u64 ((aa .u64 ((aa .u64 (1000000000 + v14)) - v16)) - b_2)).tdiv 1000000000))), Fc (i_3 + 1))
 )
 )
 )
 )
 ) (
 some (o_1)
 )
 )) ([], 0, 0)) fun o_11 => (
 bdO (aR n false o_11) fun v23 => (
 some (v23.Groups)
 )
 )

def dh (n : Nat) (a : List Int) (b : List Int) : Option (List Int × List Int) :=
 cdO (((b.length : Int) : Int) == 1) (
 gdO (inR 0 b.length) (
 bdO (eY n a (aa .u64 (gt b 0))) fun v3 => (
 bdO (aR n false [(aa .u32 v3.2)]) fun v5 => (
 some ((v3.1, v5.Groups))
 )
 )
 )
 ) (
 bdO (c7 n a b) fun v7 => (
 cdO (decide (v7 < 0)) (
 some (([], a))
 ) (
 gdO (inR (Fc ((b.length : Int) - 1)) b.length) (
 gdO (!decide (aa .u64 ((aa .u64 (gt b (Fc ((b.length : Int) - 1)))) + 1) = 0)) (
 bdO (cr n a (aa .u64 ((1000000000 : Int).tdiv (aa .u64 ((aa .u64 (gt b (Fc ((b.length : Int) - 1)))) + 1))))) fun v12 => (
 bdO (cr n b (aa .u64 ((1000000000 : Int).tdiv (aa .u64 ((aa .u64 (gt b (Fc ((b.length : Int) - 1)))) + 1))))) fun v14 => (
 gdO (inS (Fc ((Fc ((v12.length : Int) - (b.length : Int))) + 1)) (v12.length : Int) v12.length) (
 bdO (aR n false ((v12.drop (Fc ((Fc ((v12.length : Int) - (b.length : Int))) + 1)).toNat).take ((v12.length : Int).toNat - (Fc ((Fc ((v12.length : Int) - (b.length : Int))) + 1)).toNat))) fun v17 => (
 gdO (decide (0 <= Fc ((Fc ((v12.length : Int) - (b.length : Int))) + 1))) (
 gdO (decide ((4 : Int) * (Fc ((Fc ((v12.length : Int) - (b.length : Int))) + 1)) <= 281474976710656)) (
 gdO (decide (Fc ((Fc ((v12.length : Int) - (b.length : Int))) + 1) <= 9223372036854775807)) (
 bdO (aH (α := List Int × List Int × Int) (β := List Int × List Int) n (fun again60 (r_22, q_23, i_24) => (
 cdO (decide (i_24 >= 0)) (
 gdO (inR i_24 v12.length) (
 bdO (dY n r_22 (gt v12 i_24)) fun v63 => (
 bdO (aV n v63 (b.length : Int)) fun v65 => (
 bdO (aV n v63 (Fc ((b.length : Int) - 1))) fun v67 => (
 gdO (inR (Fc ((b.length : Int) - 1)) v14.length) (
 gdO (!decide (aa .u64 ((aa .u64 (gt v14 (Fc ((b.length : Int) - 1)))) + 1) = 0)) (
 bdO (cr n v14 (aa .u64 ((aa .u64 ((aa .u64 (v65 * 1000000000)) + v67)).tdiv (aa .u64 ((aa .u64 (gt v14 (Fc ((b.length : Int) - 1)))) + 1))))) fun v71 => (
 bdO (cj n v63 v71) fun v73 => (
 bdO (aH (α := List Int × Int) (β := List Int × Int) n (fun again84 (r_75, g_76) => (
 bdO (c7 n r_75 v14) fun v85 => (
 cdO (decide (v85 >= 0)) (
 bdO (cj n r_75 v14) fun v88 => (
 again84 (v88, aa .u64 (g_76 + 1))
 )
 ) (
 some ((r_75, g_76))
 )
 )
 )) (v73, aa .u64 ((aa .u64 ((aa .u64 (v65 * 1000000000)) + v67)).tdiv (aa .u64 ((aa .u64 (gt v14 (Fc ((b.length : Int) - 1)))) + 1))))) fun o90 => (
 match o90 with
 | (r_82, g_83) => (
 gdO (inR i_24 q_23.length) (
 again60 (r_82, q_23.set i_24.toNat (aa .u32 g_83), Fc (i_24 - 1))
 )
 ))
 )
 )
 )
 )
 )
 )
 )
 )
 ) (
 some ((r_22, q_23))
 )
 )) (v17.Groups, List.replicate (Fc ((Fc ((v12.length : Int) - (b.length : Int))) + 1)).toNat ((0 : Int) : Int), Fc ((v12.length : Int) - (b.length : Int)))) fun o94 => (
 match o94 with
 | (r_58, q_59) => (
 bdO (eY n r_58 (aa .u64 ((1000000000 : Int).tdiv (aa .u64 ((aa .u64 (gt b (Fc ((b.length : Int) - 1)))) + 1))))) fun v97 => (
 bdO (aR n false q_59) fun v99 => (
 some ((v99.Groups, v97.1))
 )
 )
 ))
 )
 )
 )
 )
 )
 )
 )
 )
 )
 )
 )
 )

def dE (n : Nat) (a : List Int) : Option (Int) :=
 bdO (aV n a 1) fun v1 => (
 bdO (aV n a 0) fun v3 => (
 some (aa .u64 ((aa .u64 (v1 * 1000000000)) + v3))
 )
 )

def fO (n : Nat) (x' : ah) (y : ah) : Option (ah) :=
 bdO (bg n x') fun v1 => (
 bdO (bg n y) fun v3 => (
 bdO (aH (α := List Int × List Int) (β := List Int × List Int) n (fun again16 (a_5, b_6) => (
 cdO (decide ((b_6.length : Int) > 0)) (
 cdO (decide ((a_5.length : Int) > 2)) (
 bdO (dh n a_5 b_6) fun v19 => (
 again16 (b_6, v19.2)
 )
 ) (
 cdO (decide ((b_6.length : Int) > 2)) (
 bdO (dh n a_5 b_6) fun v22 => (
 again16 (b_6, v22.2)
 )
 ) (
 some ((a_5, b_6))
 )
 )
 ) (
 some ((a_5, b_6))
 )
 )) (v1.Groups, v3.Groups)) fun o24 => (
 match o24 with
 | (a_14, b_15) => (
 cdO (((b_15.length : Int) : Int) == 0) (
 bdO (aR n false a_14) fun v28 => (
 some (v28)
 )
 ) (
 bdO (dE n a_14) fun v30 => (
 bdO (dE n b_15) fun v32 => (
 bdO (aH (α := Int × Int) (β := Int) n (fun again39 (u_34, v_35) => (
 cdO (decide (v_35 > 0)) (
 gdO (!decide (v_35 = 0)) (
 again39 (v_35, u_34.tmod v_35)
 )
 ) (
 some (u_34)
 )
 )) (v30, v32)) fun u_38 => (
 bdO (aR n false [(aa .u32 (u_38.tmod 1000000000)), (aa .u32 (aa .u64 (u_38.tdiv 1000000000)))]) fun v45 => (
 some (v45)
 )
 )
 )
 )
 )
 ))
 )
 )

def eS (n : Nat) (x' : ah) : Option (ah) :=
 bdO (bg n x') fun v1 => (
 bdO (aR n (!v1.Negative) v1.Groups) fun v3 => (
 some (v3)
 )
 )

def gB (n : Nat) (a : List Int) (b : List Int) : Option (List Int) :=
 bdO (aH (α := List Int × Int × Int) (β := List Int × Int) n (fun again20 (o_1, c_2, i_3) => (
 cdO (decide (i_3 < (a.length : Int))) (
 bdO (aV n a i_3) fun v22 => (
 bdO (aV n b i_3) fun v24 => (
 gdO (decide ((o_1.length + 1) * 4 <= 140737488355328)) (
 gdO (decide (o_1.length + 1 <= 4611686018427387904)) (
 again20 (o_1 ++ [aa .u32 ((aa .u64 ((aa .u64 (v22 + v24)) + c_2)).tmod 1000000000)], aa .u64 ((aa .u64 ((aa .u64 (v22 + v24)) + c_2)).tdiv 1000000000), Fc (i_3 + 1))
 )
 )
 )
 )
 ) (
 cdO (decide (i_3 < (b.length : Int))) (
 bdO (aV n a i_3) fun v29 => (
 bdO (aV n b i_3) fun v31 => (
 gdO (decide ((o_1.length + 1) * 4 <= 140737488355328)) (
 gdO (decide (o_1.length + 1 <= 4611686018427387904)) (
 again20 (o_1 ++ [aa .u32 ((aa .u64 ((aa .u64 (v29 + v31)) + c_2)).tmod 1000000000)], aa .u64 ((aa .u64 ((aa .u64 (v29 + v31)) + c_2)).tdiv 1000000000), Fc (i_3 + 1))
 )
 )
 )
 )
 ) (
 some ((o_1, c_2))
 )
 )
 )) ([], 0, 0)) fun o35 => (
 match o35 with
 | (o_18, c_19) => (
 gdO (decide ((o_18.length + 1) * 4 <= 140737488355328)) (
 gdO (decide (o_18.length + 1 <= 4611686018427387904)) (
 bdO (aR n false (o_18 ++ [aa .u32 c_19])) fun v40 => (
 some (v40.Groups)
 )
 )
 )
 ))

def fP (n : Nat) (x' : ah) (y : ah) : Option (ah) :=
 bdO (bg n x') fun v1 => (
 bdO (bg n y) fun v3 => (
 cdO (v1.Negative == v3.Negative) (
 bdO (gB n v1.Groups v3.Groups) fun v6 => (
 bdO (aR n v1.Negative v6) fun v8 => (
 some (v8)
 )
 )
 ) (
 bdO (c7 n v1.Groups v3.Groups) fun v10 => (
 cdO (decide (v10 >= 0)) (
 bdO (cj n v1.Groups v3.Groups) fun v13 => (
 bdO (aR n v1.Negative v13) fun v15 => (
 some (v15)
 )
 )
 ) (
 bdO (cj n v3.Groups v1.Groups) fun v17 => (
 bdO (aR n v3.Negative v17) fun v19 => (
 some (v19)
 )
 )
 )
 )
 )
 )
 )

def cV (n : Nat) (x' : ah) (y : ah) : Option (ah) :=
 bdO (eS n y) fun v1 => (
 bdO (fP n x' v1) fun v3 => (
 some (v3)
 )
 )

def bG (n : Nat) (x' : ah) (y : ah) : Option (ah) :=
 bdO (bg n x') fun v1 => (
 bdO (bg n y) fun v3 => (
 gdO (decide (0 <= Fc ((v1.Groups.length : Int) + (v3.Groups.length : Int)))) (
 gdO (decide ((4 : Int) * (Fc ((v1.Groups.length : Int) + (v3.Groups.length : Int))) <= 281474976710656)) (
 gdO (decide (Fc ((v1.Groups.length : Int) + (v3.Groups.length : Int)) <= 9223372036854775807)) (
 bdO (aH (α := List Int × Int) (β := List Int) n (fun again30 (o_8, i_9) => (
 cdO (decide (i_9 < (v1.Groups.length : Int))) (
 bdO (aH (α := List Int × Int × Int) (β := List Int × Int) n (fun again41 (o_32, c_33, j_34) => (
 cdO (decide (j_34 < (v3.Groups.length : Int))) (
 gdO (inR (Fc (i_9 + j_34)) o_32.length) (
 gdO (inR i_9 v1.Groups.length) (
 gdO (inR j_34 v3.Groups.length) (
 again41 (o_32.set (Fc (i_9 + j_34)).toNat (aa .u32 ((aa .u64 ((aa .u64 ((aa .u64 (gt o_32 (Fc (i_9 + j_34)))) + (aa .u64 ((aa .u64 (gt v1.Groups i_9)) * (aa .u64 (gt v3.Groups j_34)))))) + c_33)).tmod 1000000000)), aa .u64 ((aa .u64 ((aa .u64 ((aa .u64 (gt o_32 (Fc (i_9 + j_34)))) + (aa .u64 ((aa .u64 (gt v1.Groups i_9)) * (aa .u64 (gt v3.Groups j_34)))))) + c_33)).tdiv 1000000000), Fc (j_34 + 1))
 )
 )
 )
 ) (
 some ((o_32, c_33))
 )
 )) (o_8, 0, 0)) fun o46 => (
 match o46 with
 | (o_39, c_40) => (
 gdO (inR (Fc (i_9 + (v3.Groups.length : Int))) o_39.length) (
 again30 (o_39.set (Fc (i_9 + (v3.Groups.length : Int))).toNat (aa .u32 c_40), Fc (i_9 + 1))
 )
 ))
 ) (
 some (o_8)
 )
 )) (List.replicate (Fc ((v1.Groups.length : Int) + (v3.Groups.length : Int))).toNat ((0 : Int) : Int), 0)) fun o_29 => (
 bdO (aR n (v1.Negative != v3.Negative) o_29) fun v53 => (
 some (v53)
 )
 )
 )
 )
 )
 )
 )

def c5 (n : Nat) (x' : ah) (y : ah) : Option (ah × ah × Int) :=
 bdO (bg n x') fun v1 => (
 bdO (bg n y) fun v3 => (
 cdO (((v3.Groups.length : Int) : Int) == 0) (
 some ((ah.mk false [], ah.mk false [], 14))
 ) (
 bdO (dh n v1.Groups v3.Groups) fun v6 => (
 bdO (aR n (v1.Negative != v3.Negative) v6.1) fun v8 => (
 cdO (v1.Negative != v3.Negative) (
 cdO (decide ((v6.2.length : Int) > 0)) (
 bdO (gv n 1) fun v12 => (
 bdO (cV n v8 v12) fun v14 => (
 bdO (bG n v14 v3) fun v16 => (
 bdO (cV n v1 v16) fun v18 => (
 some ((v14, v18, 0))
 )
 )
 )
 )
 ) (
 bdO (bG n v8 v3) fun v20 => (
 bdO (cV n v1 v20) fun v22 => (
 some ((v8, v22, 0))
 )
 )
 )
 ) (
 bdO (bG n v8 v3) fun v24 => (
 bdO (cV n v1 v24) fun v26 => (
 some ((v8, v26, 0))
 )
 )
 )
 )
 )
 )
 )
 )

def di (n : Nat) (num : ah) (den : ah) : Option (ag) :=
 bdO (fO n num den) fun v1 => (
 bdO (cJ n den) fun v3 => (
 cdO (decide (v3 < 0)) (
 bdO (eS n v1) fun v6 => (
 bdO (c5 n num v6) fun v8 => (
 bdO (c5 n den v6) fun v10 => (
 some (ag.mk v8.1 v10.1)
 )
 )
 )
 ) (
 bdO (c5 n num v1) fun v12 => (
 bdO (c5 n den v1) fun v14 => (
 some (ag.mk v12.1 v14.1)
 )
 )
 )
 )
 )

def jO (n : Nat) (num : ah) (den : ah) : Option (ag × Int) :=
 bdO (cJ n den) fun v1 => (
 cdO ((v1 : Int) == 0) (
 some ((ag.mk (ah.mk false []) (ah.mk false []), 14))
 ) (
 bdO (di n num den) fun v4 => (
 some ((v4, 0))
 )
 )
 )

def bn (n : Nat) (n' : Int) (d : Int) : Option (ag × Int) :=
 bdO (ch n n') fun v1 => (
 bdO (ch n d) fun v3 => (
 bdO (jO n v1 v3) fun v5 => (
 some ((v5.1, v5.2))
 )
 )
 )

def fh (n : Nat) (x' : ah) (y : ah) : Option (Int) :=
 bdO (cV n x' y) fun v1 => (
 bdO (cJ n v1) fun v3 => (
 some (v3)
 )
 )

def cR (n : Nat) (x' : ag) : Option (Bool) :=
 bdO (cQ n x'.Num) fun v1 => (
 cdO (!v1) (
 some (false)
 ) (
 bdO (cQ n x'.Den) fun v4 => (
 cdO (!v4) (
 some (false)
 ) (
 bdO (cJ n x'.Den) fun v7 => (
 cdO (decide (v7 <= 0)) (
 some (false)
 ) (
 bdO (fO n x'.Num x'.Den) fun v10 => (
 bdO (ch n 1) fun v12 => (
 bdO (fh n v10 v12) fun v14 => (
 some ((v14 : Int) == 0)
 )
 )
 )
 )
 )
 )
 )
 )
 )

def aY (n : Nat) (n' : Int) : Option (ag) :=
 bdO (ch n n') fun v1 => (
 bdO (ch n 1) fun v3 => (
 some (ag.mk v1 v3)
 )
 )

def cD (n : Nat) (x' : ag) : Option (ag) :=
 bdO (cR n x') fun v1 => (
 cdO v1 (
 some (x')
 ) (
 bdO (aY n 0) fun v4 => (
 some (v4)
 )
 )
 )

def iv (n : Nat) (x' : ag) : Option (ag) :=
 bdO (cD n x') fun v1 => (
 bdO (eS n v1.Num) fun v3 => (
 some (ag.mk v3 v1.Den)
 )
 )

def cW (n : Nat) (x' : ag) (y : ag) : Option (ag) :=
 bdO (cD n x') fun v1 => (
 bdO (cD n y) fun v3 => (
 bdO (bG n v1.Num v3.Den) fun v5 => (
 bdO (bG n v3.Num v1.Den) fun v7 => (
 bdO (fP n v5 v7) fun v9 => (
 bdO (bG n v1.Den v3.Den) fun v11 => (
 bdO (di n v9 v11) fun v13 => (
 some (v13)
 )
 )
 )
 )
 )
 )
 )

def dV (n : Nat) (x' : ag) (y : ag) : Option (ag) :=
 bdO (iv n y) fun v1 => (
 bdO (cW n x' v1) fun v3 => (
 some (v3)
 )
 )

def gw (n : Nat) (x' : ag) : Option (Int) :=
 bdO (cD n x') fun v1 => (
 bdO (cJ n v1.Num) fun v3 => (
 some (v3)
 )
 )

def fg (n : Nat) (x' : ag) (y : ag) : Option (Int) :=
 bdO (dV n x' y) fun v1 => (
 bdO (gw n v1) fun v3 => (
 some (v3)
 )
 )

def c8 (n : Nat) (x' : ag) (y : ag) : Option (Bool) :=
 bdO (cR n x') fun v1 => (
 cdO v1 (
 bdO (cR n y) fun v4 => (
 cdO v4 (
 bdO (fg n x' y) fun v7 => (
 some ((v7 : Int) == 0)
 )
 ) (
 some (false)
 )
 )
 ) (
 some (false)
 )
 )

def bX (n : Nat) (n' : Int) : Option (List ak) :=
 gdO (!(decide (n' < 0))) (
 cdO (decide ((Fc (n' - 0)) > 0)) (
 gdO (decide (0 < (Fc (n' - 0)))) (
 gdO (decide ((Fc (n' - 0)) <= 4611686018427387904)) (
 gdO (decide ((Fc (n' - 0)).toNat * 80 <= 140737488355328)) (
 gdO (inS 0 0 (Fc (n' - 0)).toNat) (
 some (([] : List ak))
 )
 )
 )
 )
 ) (
 some ([])
 )
 )

def bU (n : Nat) (slices : List (List ak)) : Option (List ak) :=
 bdO (aH (α := Int × Int) (β := Int) n (fun again7 (s_1, x_2) => (
 cdO (decide (x_2 < (slices.length : Int))) (
 gdO (inR x_2 slices.length) (
 gdO (!(decide ((Fc (s_1 + ((gt slices x_2).length : Int))) < 0))) (
 again7 (Fc (s_1 + ((gt slices x_2).length : Int)), Fc (x_2 + 1))
 )
 )
 ) (
 some (s_1)
 )
 )) (0, 0)) fun s_6 => (
 bdO (bX n s_6) fun v14 => (
 bdO (aH (α := List ak × Int) (β := List ak) n (fun again23 (n_16, x_17) => (
 cdO (decide (x_17 < (slices.length : Int))) (
 gdO (inR x_17 slices.length) (
 gdO (decide ((n_16.length + (gt slices x_17).length) * 80 <= 140737488355328)) (
 gdO (decide (n_16.length + (gt slices x_17).length <= 4611686018427387904)) (
 again23 (n_16 ++ (gt slices x_17), Fc (x_17 + 1))
 )
 )
 )
 ) (
 some (n_16)
 )
 )) (v14, 0)) fun n_22 => (
 some (n_22)
 )
 )
 )

def nQ (n : Nat) (c : ai) : Option (ai) :=
 cdO (!c.Closed) (
 some (c)
 ) (
 bdO (aH (α := Int × Int) (β := Int) n (fun again34 (a_24, x_25) => (
 cdO (decide (x_25 < (c.Points.length : Int))) (
 gdO (inR x_25 c.Points.length) (
 gdO (inR a_24 c.Points.length) (
 bdO (gX n (A2.mk (gt c.Points x_25).A (gt c.Points x_25).B) (A2.mk (gt c.Points a_24).A (gt c.Points a_24).B)) fun v39 => (
 cdO (decide (v39 < 0)) (
 again34 (x_25, Fc (x_25 + 1))
 ) (
 again34 (a_24, Fc (x_25 + 1))
 )
 )
 )
 )
 ) (
 some (a_24)
 )
 )) (0, 0)) fun a_33 => (
 gdO (inS a_33 (c.Points.length : Int) c.Points.length) (
 gdO (inS 0 a_33 c.Points.length) (
 bdO (bU n [((c.Points.drop a_33.toNat).take ((c.Points.length : Int).toNat - a_33.toNat)), ((c.Points.drop (0 : Int).toNat).take (a_33.toNat - (0 : Int).toNat))]) fun v47 => (
 some (ai.mk true v47)
 )
 )
 )
 )
 )

def mT (n : Nat) (a : ai) (b : ai) : Option (Int) :=
 bdO (gl n a) fun v1 => (
 bdO (gl n b) fun v3 => (
 bdO (gX n v1 v3) fun v5 => (
 some (v5)
 )
 )
 )

def bl (n : Nat) (data : List ai) (a : Int) (b : Int) : Option (List ai) :=
 bdO (aH (α := List ai × Int) (β := List ai) n (fun again72 (d_49, i_50) => (
 cdO (decide (i_50 < b)) (
 bdO (aH (α := List ai × Int) (β := List ai) n (fun again83 (d_74, j_75) => (
 cdO (decide (j_75 > a)) (
 gdO (inR j_75 d_74.length) (
 gdO (inR (Fc (j_75 - 1)) d_74.length) (
 bdO (mT n (gt d_74 j_75) (gt d_74 (Fc (j_75 - 1)))) fun v87 => (
 cdO (decide (v87 < 0)) (
 again83 ((d_74.set j_75.toNat (gt d_74 (Fc (j_75 - 1)))).set (Fc (j_75 - 1)).toNat (gt d_74 j_75), Fc (j_75 - 1))
 ) (
 some (d_74)
 )
 )
 )
 )
 ) (
 some (d_74)
 )
 )) (d_49, i_50)) fun d_82 => (
 again72 (d_82, Fc (i_50 + 1))
 )
 ) (
 some (d_49)
 )
 )) (data, Fc (a + 1))) fun d_71 => (
 some (d_71)
 )

def bz (n : Nat) (data : List ai) (a : Int) (b : Int) (limit : Int) : Option (List ai) :=
 bdO (aH (α := Int × Int × Int × Bool × Bool) (β := List ai) n (fun again31 (a_21, b_22, l_23, w_24, w_25) => (
 gdO ((decide ((Fc (b_22 - a_21)) <= 12))) (
 bdO (bl n data a_21 b_22) fun v33 => (
 some (v33)
 )
 )
 )) (a, b, limit, true, true)) fun r0 => (
 some r0
 )

def a8 (n : Nat) (x' : List ai) : Option (List ai) :=
 bdO (kA n (aa .u64 (x'.length : Int))) fun v6 => (
 bdO (bz n x' 0 (x'.length : Int) v6) fun v8 => (
 some (v8)
 )
 )

def nG (n : Nat) (p : ak) (q : ak) : Option (Bool) :=
 cdO ((p.A : Int) == q.A) (
 cdO ((p.B : Int) == q.B) (
 bdO (ee n p.At) fun v3 => (
 cdO v3 (
 bdO (ee n q.At) fun v6 => (
 cdO v6 (
 bdO (kj n p.At q.At) fun v9 => (
 some ((v9 : Int) == 0)
 )
 ) (
 some (false)
 )
 )
 ) (
 some (false)
 )
 )
 ) (
 some (false)
 )
 ) (
 some (false)
 )

def aM (n : Nat) (s1 : List ak) (s2 : List ak) : Option (Bool) :=
 cdO (((s1.length : Int) : Int) != (s2.length : Int)) (
 some (false)
 ) (
 bdO (aH (α := Int) (β := Sum (Unit) (Bool)) n (fun again9 x_2 => (
 cdO (decide (x_2 < (s1.length : Int))) (
 gdO (inR x_2 s1.length) (
 gdO (inR x_2 s2.length) (
 bdO (nG n (gt s1 x_2) (gt s2 x_2)) fun v13 => (
 cdO (!v13) (
 some (Sum.inr (false))
 ) (
 again9 (Fc (x_2 + 1))
 )
 )
 )
 )
 ) (
 some (Sum.inl ())
 )
 )) 0) fun o16 => (
 match o16 with
 | .inl _ => (
 some (true)
 )
 | .inr (r0) => (
 some r0
 ))
 )

def pO (n : Nat) (a : ai) (b : ai) : Option (Bool) :=
 cdO (a.Closed == b.Closed) (
 bdO (aM n a.Points b.Points) fun v2 => (
 some (v2)
 )
 ) (
 some (false)
 )

def aN (n : Nat) (s1 : List ai) (s2 : List ai) : Option (Bool) :=
 cdO (((s1.length : Int) : Int) != (s2.length : Int)) (
 some (false)
 ) (
 bdO (aH (α := Int) (β := Sum (Unit) (Bool)) n (fun again9 x_2 => (
 cdO (decide (x_2 < (s1.length : Int))) (
 gdO (inR x_2 s1.length) (
 gdO (inR x_2 s2.length) (
 bdO (pO n (gt s1 x_2) (gt s2 x_2)) fun v13 => (
 cdO (!v13) (
 some (Sum.inr (false))
 ) (
 again9 (Fc (x_2 + 1))
 )
 )
 )
 )
 ) (
 some (Sum.inl ())
 )
 )) 0) fun o16 => (
 match o16 with
 | .inl _ => (
 some (true)
 )
 | .inr (r0) => (
 some r0
 ))
 )

noncomputable def ku (n : Nat) (g : al) (level : Int) (l : List ai) : Option (Int) :=
 bdO (dF n g level) fun v1 => (
 cdO ((v1 : Int) != 0) (
 some (v1)
 ) (
 bdO (aH (α := List ai × Int) (β := Sum (List ai) (Int)) n (fun again16 (g_5, x_6) => (
 cdO (decide (x_6 < (l.length : Int))) (
 gdO (inR x_6 l.length) (
 cdO ((((gt l x_6).Points.length : Int) : Int) == 0) (
 some (Sum.inr (12))
 ) (
 bdO (nQ n (gt l x_6)) fun v21 => (
 gdO (decide ((g_5.length + 1) * 32 <= 140737488355328)) (
 gdO (decide (g_5.length + 1 <= 4611686018427387904)) (
 again16 (g_5 ++ [v21], Fc (x_6 + 1))
 )
 )
 )
 )
 )
 ) (
 some (Sum.inl g_5)
 )
 )) ([], 0)) fun o25 => (
 match o25 with
 | .inl g_15 => (
 bdO (a8 n g_15) fun v28 => (
 gdO (decide (v28.length = g_15.length)) (
 bdO (iw n g level) fun v31 => (
 bdO (aN n v28 v31) fun v33 => (
 cdO (!v33) (
 some (12)
 ) (
 some (0)
 )
 )
 )
 )
 )
 )
 | .inr (r0) => (
 some r0
 ))
 )
 )

noncomputable def fW (n : Nat) : Option (Bool) :=
 bdO (dj n) fun v1 => (
 bdO (kD n v1 1) fun v3 => (
 cdO ((v3.2 : Int) != 0) (
 some (false)
 ) (
 cdO (((v3.1.length : Int) : Int) != 1) (
 some (false)
 ) (
 gdO (inR 0 v3.1.length) (
 cdO (!(gt v3.1 0).Closed) (
 some (false)
 ) (
 cdO ((((gt v3.1 0).Points.length : Int) : Int) != 6) (
 some (false)
 ) (
 gdO (inR 1 (gt v3.1 0).Points.length) (
 cdO (((gt (gt v3.1 0).Points 1).A : Int) != 1) (
 some (false)
 ) (
 cdO (((gt (gt v3.1 0).Points 1).B : Int) != 4) (
 some (false)
 ) (
 bdO (dj n) fun v13 => (
 bdO (gr n v13 1) fun v15 => (
 bdO (dj n) fun v17 => (
 bdO (oz n v17 (gt v3.1 0) 1 1) fun v19 => (
 bdO (bn n 147 16) fun v21 => (
 cdO ((v15.2 : Int) == 0) (
 cdO ((v19.2 : Int) == 0) (
 cdO ((v19.1 : Int) == 1) (
 bdO (c8 n v15.1 v21.1) fun v26 => (
 cdO v26 (
 bdO (dj n) fun v29 => (
 bdO (ku n v29 1 v3.1) fun v31 => (
 some ((v31 : Int) == 0)
 )
 )
 ) (
 some (false)
 )
 )
 ) (
 some (false)
 )
 ) (
 some (false)
 )
 ) (
 some (false)
 )
 )
 )
 )
 )
 )
 )
 )
 )
 )
 )
 )
 )
 )
 )
 )

def lk (n : Nat) (g : al) (n' : Int) : Option (Bool) :=
 some (decide ((g.Z.length : Int) <= n'))

def jF (n : Nat) (x' : ag) : Option (ag) :=
 bdO (bF n 3) fun v1 => (
 bdO (gV n x' v1) fun v3 => (
 some (v3.1)
 )
 )

def eH (n : Nat) (a : ag) (b : ag) (c : ag) (tip : ag) : Option (ag) :=
 bdO (b7 n b c) fun v1 => (
 bdO (b7 n a v1) fun v3 => (
 bdO (jF n v3) fun v5 => (
 bdO (c6 n v5 tip) fun v7 => (
 some (v7)
 )
 )
 )
 )

def fk (n : Nat) (a : ag) (b : ag) (c : ag) : Option (ag) :=
 bdO (gk n a b c) fun v1 => (
 bdO (cP n a v1) fun v3 => (
 bdO (jF n v3) fun v5 => (
 some (v5)
 )
 )
 )

def fX (n : Nat) (t : A3 Int) (p : Int) (p' : Int) (p'' : Int) (AK : Int) (xk : Int) (iL : List Int) (ln : Int) (j7 : Bool) (fK : List Int) (fv : Bool) (ir : List Int) : Option (Bool × List Int × Bool × List Int) :=
 bdO (α := Bool × List Int × Bool × List Int × Int) (
 gdO (inR t.e0 iL.length) (
 bdO (dW n (Fc ((Fc (2 * (gt iL t.e0))) - ln)) 2) fun v285 => (
 bdO (aZ n v285.1) fun v287 => (
 cdO (decide (v287 > 0)) (
 some ((v285.1.Num.Negative, v285.1.Num.Groups, v285.1.Den.Negative, v285.1.Den.Groups, 1))
 ) (
 some ((v285.1.Num.Negative, v285.1.Num.Groups, v285.1.Den.Negative, v285.1.Den.Groups, 0))
 )
 )
 )
 )
 ) fun o290 => (
 match o290 with
 | (h_279, h_280, h_281, h_282, u_283) => (
 bdO (α := Bool × List Int × Bool × List Int × Int) (
 gdO (inR t.e1 iL.length) (
 bdO (dW n (Fc ((Fc (2 * (gt iL t.e1))) - ln)) 2) fun v299 => (
 bdO (aZ n v299.1) fun v301 => (
 cdO (decide (v301 > 0)) (
 some ((v299.1.Num.Negative, v299.1.Num.Groups, v299.1.Den.Negative, v299.1.Den.Groups, Fc (u_283 + 1)))
 ) (
 some ((v299.1.Num.Negative, v299.1.Num.Groups, v299.1.Den.Negative, v299.1.Den.Groups, u_283))
 )
 )
 )
 )
 ) fun o304 => (
 match o304 with
 | (h_293, h_294, h_295, h_296, u_297) => (
 bdO (α := Bool × List Int × Bool × List Int × Int) (
 gdO (inR t.e2 iL.length) (
 bdO (dW n (Fc ((Fc (2 * (gt iL t.e2))) - ln)) 2) fun v313 => (
 bdO (aZ n v313.1) fun v315 => (
 cdO (decide (v315 > 0)) (
 some ((v313.1.Num.Negative, v313.1.Num.Groups, v313.1.Den.Negative, v313.1.Den.Groups, Fc (u_297 + 1)))
 ) (
 some ((v313.1.Num.Negative, v313.1.Num.Groups, v313.1.Den.Negative, v313.1.Den.Groups, u_297))
 )
 )
 )
 )
 ) fun o318 => (
 match o318 with
 | (h_307, h_308, h_309, h_310, u_311) => (
 cdO ((u_311 : Int) == 0) (
 some ((j7, fK, fv, ir))
 ) (
 cdO ((u_311 : Int) == 3) (
 bdO (bF n 0) fun v346 => (
 bdO (eH n (ag.mk (ah.mk h_279 h_280) (ah.mk h_281 h_282)) (ag.mk (ah.mk h_293 h_294) (ah.mk h_295 h_296)) (ag.mk (ah.mk h_307 h_308) (ah.mk h_309 h_310)) v346) fun v348 => (
 bdO (b7 n (ag.mk (ah.mk j7 fK) (ah.mk fv ir)) v348) fun v350 => (
 some ((v350.Num.Negative, v350.Num.Groups, v350.Den.Negative, v350.Den.Groups))
 )
 )
 )
 ) (
 bdO (aH (α := Bool × List Int × Bool × List Int × Bool × List Int × Bool × List Int × Bool × List Int × Bool × List Int) (β := Bool × List Int × Bool × List Int × Bool × List Int × Bool × List Int × Bool × List Int × Bool × List Int) n (fun again443 (h_406, h_407, h_408, h_409, h_410, h_411, h_412, h_413, h_414, h_415, h_416, h_417) => (
 bdO (α := Sum (Unit) (Unit)) (
 bdO (aZ n (ag.mk (ah.mk h_406 h_407) (ah.mk h_408 h_409))) fun v446 => (
 cdO ((decide (v446 > 0)) != ((u_311 : Int) == 1)) (
 some (Sum.inr (()))
 ) (
 bdO (aZ n (ag.mk (ah.mk h_410 h_411) (ah.mk h_412 h_413))) fun v449 => (
 bdO (aZ n (ag.mk (ah.mk h_414 h_415) (ah.mk h_416 h_417))) fun v451 => (
 cdO ((decide (v449 > 0)) != (decide (v451 > 0))) (
 some (Sum.inr (()))
 ) (
 some (Sum.inl ())
 )
 )
 )
 )
 )
 ) fun o454 => (
 match o454 with
 | .inl _ => (
 some ((h_406, h_407, h_408, h_409, h_410, h_411, h_412, h_413, h_414, h_415, h_416, h_417))
 )
 | .inr (_) => (
 again443 (h_410, h_411, h_412, h_413, h_414, h_415, h_416, h_417, h_406, h_407, h_408, h_409)
 ))
 )) (h_279, h_280, h_281, h_282, h_293, h_294, h_295, h_296, h_307, h_308, h_309, h_310)) fun o457 => (
 match o457 with
 | (h_431, h_432, h_433, h_434, h_435, h_436, h_437, h_438, h_439, h_440, h_441, h_442) => (
 bdO (fk n (ag.mk (ah.mk h_431 h_432) (ah.mk h_433 h_434)) (ag.mk (ah.mk h_435 h_436) (ah.mk h_437 h_438)) (ag.mk (ah.mk h_439 h_440) (ah.mk h_441 h_442))) fun v460 => (
 cdO ((u_311 : Int) == 2) (
 bdO (eH n (ag.mk (ah.mk h_431 h_432) (ah.mk h_433 h_434)) (ag.mk (ah.mk h_435 h_436) (ah.mk h_437 h_438)) (ag.mk (ah.mk h_439 h_440) (ah.mk h_441 h_442)) v460) fun v463 => (
 bdO (b7 n (ag.mk (ah.mk j7 fK) (ah.mk fv ir)) v463) fun v465 => (
 some ((v465.Num.Negative, v465.Num.Groups, v465.Den.Negative, v465.Den.Groups))
 )
 )
 ) (
 bdO (b7 n (ag.mk (ah.mk j7 fK) (ah.mk fv ir)) v460) fun v467 => (
 some ((v467.Num.Negative, v467.Num.Groups, v467.Den.Negative, v467.Den.Groups))
 )
 )
 )
 ))
 )
 )
 ))
 ))
 ))

def bK (n : Nat) (g : al) (c : Int) (c' : Int) (c'' : Int) (wF : Int) (rX : Int) (ox : List Int) (mi : Int) (qY : Bool) (pw : List Int) (sK : Bool) (qK : List Int) : Option (Bool × List Int × Bool × List Int) :=
 bdO (aH (α := Bool × List Int × Bool × List Int × Int) (β := Bool × List Int × Bool × List Int) n (fun again318 (c_212, c_213, c_214, c_215, x_216) => (
 cdO (decide (x_216 < (Fc (g.Height - 1)))) (
 bdO (aH (α := Bool × List Int × Bool × List Int × Int) (β := Bool × List Int × Bool × List Int) n (fun again371 (c_321, c_322, c_323, c_324, x_325) => (
 cdO (decide (x_325 < (Fc (g.Width - 1)))) (
 bdO (some (Fc ((Fc (x_216 * g.Width)) + x_325))) fun w374 => (
 bdO (some [A3.mk w374 (Fc (w374 + 1)) (Fc ((Fc (w374 + g.Width)) + 1)), A3.mk w374 (Fc ((Fc (w374 + g.Width)) + 1)) (Fc (w374 + g.Width))]) fun w376 => (
 bdO (aH (α := Bool × List Int × Bool × List Int × Int) (β := Bool × List Int × Bool × List Int) n (fun again398 (c_378, c_379, c_380, c_381, x_382) => (
 cdO (decide (x_382 < 2)) (
 gdO (inR x_382 w376.length) (
 gdO (inR (gt w376 x_382).e0 g.Z.length) (
 cdO (((gt g.Z (gt w376 x_382).e0) : Int) != (-2147483648)) (
 gdO (inR (gt w376 x_382).e1 g.Z.length) (
 cdO (((gt g.Z (gt w376 x_382).e1) : Int) != (-2147483648)) (
 gdO (inR (gt w376 x_382).e2 g.Z.length) (
 cdO (((gt g.Z (gt w376 x_382).e2) : Int) != (-2147483648)) (
 bdO (fX n (gt w376 x_382) c c' c'' wF rX ox mi c_378 c_379 c_380 c_381) fun v408 => (
 again398 (v408.1, v408.2.1, v408.2.2.1, v408.2.2.2, Fc (x_382 + 1))
 )
 ) (
 again398 (c_378, c_379, c_380, c_381, Fc (x_382 + 1))
 )
 )
 ) (
 again398 (c_378, c_379, c_380, c_381, Fc (x_382 + 1))
 )
 )
 ) (
 again398 (c_378, c_379, c_380, c_381, Fc (x_382 + 1))
 )
 )
 )
 ) (
 some ((c_378, c_379, c_380, c_381))
 )
 )) (c_321, c_322, c_323, c_324, 0)) fun o410 => (
 match o410 with
 | (c_394, c_395, c_396, c_397) => (
 again371 (c_394, c_395, c_396, c_397, Fc (x_325 + 1))
 ))
 )
 )
 ) (
 some ((c_321, c_322, c_323, c_324))
 )
 )) (c_212, c_213, c_214, c_215, 0)) fun o413 => (
 match o413 with
 | (c_367, c_368, c_369, c_370) => (
 again318 (c_367, c_368, c_369, c_370, Fc (x_216 + 1))
 ))
 ) (
 some ((c_212, c_213, c_214, c_215))
 )
 )) (qY, pw, sK, qK, 0)) fun o416 => (
 match o416 with
 | (c_314, c_315, c_316, c_317) => (
 some ((c_314, c_315, c_316, c_317))
 ))

def a7 (n : Nat) (g : al) (level : Int) : Option (ag) :=
 bdO (bF n 0) fun v1 => (
 bdO (bK n g g.X0 g.Y0 g.Step g.Width g.Height g.Z level v1.Num.Negative v1.Num.Groups v1.Den.Negative v1.Den.Groups) fun v3 => (
 bdO (dW n (Fc (g.Step * g.Step)) 2) fun v5 => (
 bdO (cP n (ag.mk (ah.mk v3.1 v3.2.1) (ah.mk v3.2.2.1 v3.2.2.2)) v5.1) fun v7 => (
 some (v7)
 )
 )
 )
 )

def gK (n : Nat) (g : al) (level : Int) : Option (ag × Int) :=
 bdO (dF n g level) fun v1 => (
 cdO ((v1 : Int) != 0) (
 some ((ag.mk (ah.mk false []) (ah.mk false []), v1))
 ) (
 bdO (a7 n g level) fun v4 => (
 some ((v4, 0))
 )
 )
 )

def dX (n : Nat) (n' : Int) : Option (Bool) :=
 cdO (decide (n' < (-1048576))) (
 some (true)
 ) (
 some (decide (n' > 1048576))
 )

def ga (n : Nat) (g : al) : Option (Int) :=
 cdO (decide (g.Width < 2)) (
 some (2)
 ) (
 cdO (decide (g.Width > 64)) (
 some (2)
 ) (
 cdO (decide (g.Height < 2)) (
 some (2)
 ) (
 cdO (decide (g.Height > 64)) (
 some (2)
 ) (
 cdO (decide (g.Step < 2)) (
 some (2)
 ) (
 cdO (decide (g.Step > 65536)) (
 some (2)
 ) (
 cdO (((g.Step.tmod 2) : Int) != 0) (
 some (2)
 ) (
 bdO (dX n g.X0) fun v8 => (
 cdO v8 (
 some (2)
 ) (
 bdO (dX n g.Y0) fun v11 => (
 cdO v11 (
 some (2)
 ) (
 cdO (((g.Z.length : Int) : Int) != (Fc (g.Width * g.Height))) (
 some (4)
 ) (
 bdO (aH (α := Int) (β := Sum (Unit) (Int)) n (fun again22 x_15 => (
 cdO (decide (x_15 < (g.Z.length : Int))) (
 gdO (inR x_15 g.Z.length) (
 cdO (((gt g.Z x_15) : Int) != (-2147483648)) (
 bdO (dX n (gt g.Z x_15)) fun v26 => (
 cdO v26 (
 some (Sum.inr (2))
 ) (
 again22 (Fc (x_15 + 1))
 )
 )
 ) (
 again22 (Fc (x_15 + 1))
 )
 )
 ) (
 some (Sum.inl ())
 )
 )) 0) fun o29 => (
 match o29 with
 | .inl _ => (
 some (0)
 )
 | .inr (r0) => (
 some r0
 ))
 )
 )
 )
 )
 )
 )
 )
 )
 )
 )
 )
 )

def fj (n : Nat) (g : al) (level : Int) : Option (Int) :=
 bdO (ga n g) fun v1 => (
 cdO ((v1 : Int) != 0) (
 some (v1)
 ) (
 cdO (((level.tmod 2) : Int) == 0) (
 some (1)
 ) (
 cdO (decide (level < (-2097153))) (
 some (2)
 ) (
 cdO (decide (level > 2097153)) (
 some (2)
 ) (
 some (0)
 )
 )
 )
 )
 )

def fm (n : Nat) (x' : ag) : Option (Bool) :=
 cdO (!x'.Num.Negative) (
 cdO (!x'.Den.Negative) (
 cdO (((x'.Num.Groups.length : Int) : Int) == 0) (
 some (((x'.Den.Groups.length : Int) : Int) == 0)
 ) (
 some (false)
 )
 ) (
 some (false)
 )
 ) (
 some (false)
 )

def eG (n : Nat) (g : al) : Option (List (A3 Int)) :=
 bdO (aH (α := List (A3 Int) × Int) (β := List (A3 Int)) n (fun again76 (l_1, x_2) => (
 cdO (decide (x_2 < (Fc (g.Height - 1)))) (
 bdO (aH (α := List (A3 Int) × Int) (β := List (A3 Int)) n (fun again113 (l_78, x_79) => (
 cdO (decide (x_79 < (Fc (g.Width - 1)))) (
 bdO (some (Fc ((Fc (x_2 * g.Width)) + x_79))) fun w115 => (
 bdO (some [A3.mk w115 (Fc (w115 + 1)) (Fc ((Fc (w115 + g.Width)) + 1)), A3.mk w115 (Fc ((Fc (w115 + g.Width)) + 1)) (Fc (w115 + g.Width))]) fun w117 => (
 bdO (aH (α := List (A3 Int) × Int) (β := List (A3 Int)) n (fun again132 (l_119, x_120) => (
 cdO (decide (x_120 < 2)) (
 gdO (inR x_120 w117.length) (
 gdO (inR (gt w117 x_120).e0 g.Z.length) (
 cdO (((gt g.Z (gt w117 x_120).e0) : Int) != (-2147483648)) (
 gdO (inR (gt w117 x_120).e1 g.Z.length) (
 cdO (((gt g.Z (gt w117 x_120).e1) : Int) != (-2147483648)) (
 gdO (inR (gt w117 x_120).e2 g.Z.length) (
 cdO (((gt g.Z (gt w117 x_120).e2) : Int) != (-2147483648)) (
 gdO (decide ((l_119.length + 1) * 24 <= 140737488355328)) (
 gdO (decide (l_119.length + 1 <= 4611686018427387904)) (
 again132 (l_119 ++ [(gt w117 x_120)], Fc (x_120 + 1))
 )
 )
 ) (
 again132 (l_119, Fc (x_120 + 1))
 )
 )
 ) (
 again132 (l_119, Fc (x_120 + 1))
 )
 )
 ) (
 again132 (l_119, Fc (x_120 + 1))
 )
 )
 )
 ) (
 some (l_119)
 )
 )) (l_78, 0)) fun l_131 => (
 again113 (l_131, Fc (x_79 + 1))
 )
 )
 )
 ) (
 some (l_78)
 )
 )) (l_1, 0)) fun l_112 => (
 again76 (l_112, Fc (x_2 + 1))
 )
 ) (
 some (l_1)
 )
 )) ([], 0)) fun l_75 => (
 some (l_75)
 )


def jY (n : Nat) (a : Int) (b : Int) (c : Int) : Option (ag × ag) := none

def cw (n : Nat) (x' : ag) (y : ag) : Option (ag) :=
 bdO (cD n x') fun v1 => (
 bdO (cD n y) fun v3 => (
 bdO (bG n v1.Num v3.Num) fun v5 => (
 bdO (bG n v1.Den v3.Den) fun v7 => (
 bdO (di n v5 v7) fun v9 => (
 some (v9)
 )
 )
 )
 )
 )

def fF (n : Nat) (a : Int) (b : Int) (c : Int) : Option (ag × ag) :=
 bdO (aH (α := Int × Int) (β := Int) n (fun again7 (n_1, x_2) => (
 cdO (decide (x_2 < 3)) (
 gdO (inR x_2 ([a, b, c].length)) (
 cdO (decide ((gt [a, b, c] x_2) > 0)) (
 again7 (Fc (n_1 + 1), Fc (x_2 + 1))
 ) (
 again7 (n_1, Fc (x_2 + 1))
 )
 )
 ) (
 some (n_1)
 )
 )) (0, 0)) fun n_6 => (
 cdO ((n_6 : Int) == 0) (
 bdO (aY n 0) fun v15 => (
 bdO (aY n 0) fun v17 => (
 some ((v15, v17))
 )
 )
 ) (
 cdO (decide (n_6 >= 2)) (
 bdO (jY n (Fc (0 - a)) (Fc (0 - b)) (Fc (0 - c))) fun v20 => (
 bdO (bn n (Fc ((Fc (a + b)) + c)) 6) fun v22 => (
 bdO (aY n 1) fun v24 => (
 bdO (dV n v24 v20.1) fun v26 => (
 bdO (cW n v22.1 v20.2) fun v28 => (
 some ((v26, v28))
 )
 )
 )
 )
 )
 ) (
 bdO (aH (α := Int × Int × Int) (β := Int × Int × Int) n (fun again37 (a_30, b_31, c_32) => (
 cdO (decide (a_30 <= 0)) (
 again37 (b_31, c_32, a_30)
 ) (
 some ((a_30, b_31, c_32))
 )
 )) (a, b, c)) fun o39 => (
 match o39 with
 | (a_34, b_35, c_36) => (
 bdO (bn n a_34 (Fc (a_34 - b_35))) fun v42 => (
 bdO (bn n a_34 (Fc (a_34 - c_36))) fun v44 => (
 bdO (cw n v42.1 v44.1) fun v46 => (
 bdO (bn n a_34 6) fun v48 => (
 bdO (cw n v46 v48.1) fun v50 => (
 some ((v46, v50))
 )
 )
 )
 )
 )
 ))
 )
 )
 )

def gJ (n : Nat) (a : Int) (b : Int) (c : Int) : Option (ag × ag) :=
 bdO (aH (α := Int × Int) (β := Int) n (fun again7 (n_1, x_2) => (
 cdO (decide (x_2 < 3)) (
 gdO (inR x_2 ([a, b, c].length)) (
 cdO (decide ((gt [a, b, c] x_2) > 0)) (
 again7 (Fc (n_1 + 1), Fc (x_2 + 1))
 ) (
 again7 (n_1, Fc (x_2 + 1))
 )
 )
 ) (
 some (n_1)
 )
 )) (0, 0)) fun n_6 => (
 cdO ((n_6 : Int) == 0) (
 bdO (aY n 0) fun v15 => (
 bdO (aY n 0) fun v17 => (
 some ((v15, v17))
 )
 )
 ) (
 cdO (decide (n_6 >= 2)) (
 bdO (fF n (Fc (0 - a)) (Fc (0 - b)) (Fc (0 - c))) fun v20 => (
 bdO (bn n (Fc ((Fc (a + b)) + c)) 6) fun v22 => (
 bdO (aY n 1) fun v24 => (
 bdO (dV n v24 v20.1) fun v26 => (
 bdO (cW n v22.1 v20.2) fun v28 => (
 some ((v26, v28))
 )
 )
 )
 )
 )
 ) (
 bdO (aH (α := Int × Int × Int) (β := Int × Int × Int) n (fun again37 (a_30, b_31, c_32) => (
 cdO (decide (a_30 <= 0)) (
 again37 (b_31, c_32, a_30)
 ) (
 some ((a_30, b_31, c_32))
 )
 )) (a, b, c)) fun o39 => (
 match o39 with
 | (a_34, b_35, c_36) => (
 bdO (bn n a_34 (Fc (a_34 - b_35))) fun v42 => (
 bdO (bn n a_34 (Fc (a_34 - c_36))) fun v44 => (
 bdO (cw n v42.1 v44.1) fun v46 => (
 bdO (bn n a_34 6) fun v48 => (
 bdO (cw n v46 v48.1) fun v50 => (
 some ((v46, v50))
 )
 )
 )
 )
 )
 ))
 )
 )
 )

def gC (n : Nat) (g : al) (level : Int) : Option (ag × ag) :=
 bdO (aY n 0) fun v1 => (
 bdO (aY n 0) fun v3 => (
 bdO (bn n (Fc (g.Step * g.Step)) 2) fun v5 => (
 bdO (eG n g) fun v7 => (
 bdO (aH (α := Bool × List Int × Bool × List Int × Bool × List Int × Bool × List Int × Int) (β := Bool × List Int × Bool × List Int × Bool × List Int × Bool × List Int) n (fun again41 (a_9, a_10, a_11, a_12, v_13, v_14, v_15, v_16, x_17) => (
 cdO (decide (x_17 < (v7.length : Int))) (
 gdO (inR x_17 v7.length) (
 gdO (inR (gt v7 x_17).e0 g.Z.length) (
 gdO (inR (gt v7 x_17).e1 g.Z.length) (
 gdO (inR (gt v7 x_17).e2 g.Z.length) (
 bdO (gJ n (Fc ((Fc (2 * (gt g.Z (gt v7 x_17).e0))) - level)) (Fc ((Fc (2 * (gt g.Z (gt v7 x_17).e1))) - level)) (Fc ((Fc (2 * (gt g.Z (gt v7 x_17).e2))) - level))) fun v47 => (
 bdO (cw n v5.1 v47.1) fun v49 => (
 bdO (cW n (ag.mk (ah.mk a_9 a_10) (ah.mk a_11 a_12)) v49) fun v51 => (
 bdO (cw n v5.1 v47.2) fun v53 => (
 bdO (cW n (ag.mk (ah.mk v_13 v_14) (ah.mk v_15 v_16)) v53) fun v55 => (
 again41 (v51.Num.Negative, v51.Num.Groups, v51.Den.Negative, v51.Den.Groups, v55.Num.Negative, v55.Num.Groups, v55.Den.Negative, v55.Den.Groups, Fc (x_17 + 1))
 )
 )
 )
 )
 )
 )
 )
 )
 )
 ) (
 some ((a_9, a_10, a_11, a_12, v_13, v_14, v_15, v_16))
 )
 )) (v1.Num.Negative, v1.Num.Groups, v1.Den.Negative, v1.Den.Groups, v3.Num.Negative, v3.Num.Groups, v3.Den.Negative, v3.Den.Groups, 0)) fun o57 => (
 match o57 with
 | (a_33, a_34, a_35, a_36, v_37, v_38, v_39, v_40) => (
 some ((ag.mk (ah.mk a_33 a_34) (ah.mk a_35 a_36), ag.mk (ah.mk v_37 v_38) (ah.mk v_39 v_40)))
 ))
 )
 )
 )
 )

noncomputable def dQ (n : Nat) (g : al) (level : Int) : Option (Bool) :=
 bdO (fW n) fun v1 => (
 cdO (!v1) (
 some (false)
 ) (
 bdO (lk n g 40) fun v4 => (
 cdO (!v4) (
 some (true)
 ) (
 bdO (gr n g level) fun v7 => (
 bdO (gK n g level) fun v9 => (
 bdO (fj n g level) fun v11 => (
 cdO ((v11 : Int) != 0) (
 cdO ((v7.2 : Int) == v11) (
 cdO ((v9.2 : Int) == v11) (
 bdO (fm n v7.1) fun v16 => (
 cdO v16 (
 bdO (fm n v9.1) fun v19 => (
 some (v19)
 )
 ) (
 some (false)
 )
 )
 ) (
 some (false)
 )
 ) (
 some (false)
 )
 ) (
 bdO (gC n g level) fun v21 => (
 cdO ((v7.2 : Int) == 0) (
 cdO ((v9.2 : Int) == 0) (
 bdO (c8 n v7.1 v21.1) fun v25 => (
 cdO v25 (
 bdO (c8 n v9.1 v21.2) fun v28 => (
 some (v28)
 )
 ) (
 some (false)
 )
 )
 ) (
 some (false)
 )
 ) (
 some (false)
 )
 )
 )
 )
 )
 )
 )
 )
 )
 )
abbrev iCu := iC .u32
abbrev wFu (n : Int) : Int := aa .u64 n
abbrev zN2 : List AV := [aB false, nS, aB false, nS]
abbrev zN3 : List AV := [aB false, nS, aB false, nS, aB false, nS]
abbrev zN4 : List AV := [aB false, nS, aB false, nS, aB false, nS, aB false, nS]
end Go.L