
import Derived.Test.YtecdcgfclgmbpaaGreatSc11Mons
import Derived.Test.YtecdcgfclgmbpaaGreatScMMons
import Derived.Test.YtecdcgfclgmbpaaGreatScRMons
import Derived.Test.YtecdcgfclgmbpaaGreatScUMons
set_option linter.all false
set_option maxRecDepth 100000
set_option maxHeartbeats 4000000
namespace Go.L
open Go Go.Eng
def gb : ByteArray := ⟨#[0, 1, 2, 2, 3, 3, 3, 3, 4, 4, 4, 4, 4, 4, 4, 4, 5, 5, 5, 5, 5, 5, 5, 5, 5, 5, 5, 5, 5, 5, 5, 5, 6, 6, 6, 6, 6, 6, 6, 6, 6, 6, 6, 6, 6, 6, 6, 6, 6, 6, 6, 6, 6, 6, 6, 6, 6, 6, 6, 6, 6, 6, 6, 6, 7, 7, 7, 7, 7, 7, 7, 7, 7, 7, 7, 7, 7, 7, 7, 7, 7, 7, 7, 7, 7, 7, 7, 7, 7, 7, 7, 7, 7, 7, 7, 7, 7, 7, 7, 7, 7, 7, 7, 7, 7, 7, 7, 7, 7, 7, 7, 7, 7, 7, 7, 7, 7, 7, 7, 7, 7, 7, 7, 7, 7, 7, 7, 7, 8, 8, 8, 8, 8, 8, 8, 8, 8, 8, 8, 8, 8, 8, 8, 8, 8, 8, 8, 8, 8, 8, 8, 8, 8, 8, 8, 8, 8, 8, 8, 8, 8, 8, 8, 8, 8, 8, 8, 8, 8, 8, 8, 8, 8, 8, 8, 8, 8, 8, 8, 8, 8, 8, 8, 8, 8, 8, 8, 8, 8, 8, 8, 8, 8, 8, 8, 8, 8, 8, 8, 8, 8, 8, 8, 8, 8, 8, 8, 8, 8, 8, 8, 8, 8, 8, 8, 8, 8, 8, 8, 8, 8, 8, 8, 8, 8, 8, 8, 8, 8, 8, 8, 8, 8, 8, 8, 8, 8, 8, 8, 8, 8, 8, 8, 8, 8, 8, 8, 8, 8, 8, 8, 8, 8, 8, 8, 8]⟩
structure al where
 X0 : Int
 Y0 : Int
 Step : Int
 Width : Int
 Height : Int
 Z : List Int
 deriving Inhabited

structure A2 (α : Type) where
 e0 : α
 e1 : α
 deriving Inhabited, DecidableEq

structure ah where
 Negative : Bool
 Groups : List Int
 deriving Inhabited

structure ai where
 Num : ah
 Den : ah
 deriving Inhabited

structure ak where
 A : Int
 B : Int
 At : ai
 deriving Inhabited

structure ag where
 Closed : Bool
 Points : List ak
 deriving Inhabited

def av.K (x : A2 Int) : Value := .agg #[.int .i64 x.e0, .int .i64 x.e1]
theorem av.key : Cb av.K := fun ⟨a0, a1⟩ ⟨b0, b1⟩ => by
 have h : ((⟨a0, a1⟩ : A2 Int) == ⟨b0, b1⟩) = (a0 == b0 && (a1 == b1 && true)) := by rw [Bool.eq_iff_iff]; simp
 show some _ = some _
 rw [h]

def aj.c (x : A2 Int) : List AV := [.at (.int .i64 x.e0), .at (.int .i64 x.e1)]
theorem aj.len : ∀ x, (aj.c x).length = 2 := fun _ => rfl
theorem aj.pure : ∀ x, dH (aj.c x) = [] := fun _ => rfl

structure A3 (α : Type) where
 e0 : α
 e1 : α
 e2 : α
 deriving Inhabited

def aw.c (x : A3 Int) : List AV := [.at (.int .i64 x.e0), .at (.int .i64 x.e1), .at (.int .i64 x.e2)]
theorem aw.len : ∀ x, (aw.c x).length = 3 := fun _ => rfl
theorem aw.pure : ∀ x, dH (aw.c x) = [] := fun _ => rfl

def A3.get (x : A3 Int) (j : Int) : Int := gt [x.e0, x.e1, x.e2] j
def A3.put (x : A3 Int) (j v : Int) : A3 Int := ⟨if j.toNat = 0 then v else x.e0, if j.toNat = 1 then v else x.e1, if j.toNat = 2 then v else x.e2⟩
theorem A3.Ff {k : IntKind} (x : A3 Int) {j : Int} (v : Int) (h : inR j 3 = true) : setCells [.at (.int k x.e0), .at (.int k x.e1), .at (.int k x.e2)] j.toNat [.at (.int k v)] = [.at (.int k (x.put j v).e0), .at (.int k (x.put j v).e1), .at (.int k (x.put j v).e2)] := by
 have h1 := aC h
 have hj : j.toNat = 0 \/ j.toNat = 1 \/ j.toNat = 2 := by omega
 unfold A3.put
 rcases hj with e | e | e <;> simp only [e] <;> rfl

def ak.c (x : ak) : List AV := [.at (.int .i64 x.A), .at (.int .i64 x.B), .at (.bool x.At.Num.Negative), slT (iC .u32) x.At.Num.Groups, .at (.bool x.At.Den.Negative), slT (iC .u32) x.At.Den.Groups]
theorem ak.len : ∀ x, (ak.c x).length = 6 := fun _ => rfl
theorem ak.pure : ∀ x, dH (ak.c x) = [] := fun _ => rfl

def ag.c (x : ag) : List AV := [.at (.bool x.Closed), slT ak.c x.Points]
theorem ag.len : ∀ x, (ag.c x).length = 2 := fun _ => rfl
theorem ag.pure : ∀ x, dH (ag.c x) = [] := fun _ => rfl

theorem ak.inj : ∀ x y, ak.c x = ak.c y -> x = y := by
 rintro ⟨_, _, ⟨⟨_, _⟩, ⟨_, _⟩⟩⟩ ⟨_, _, ⟨⟨_, _⟩, ⟨_, _⟩⟩⟩ h
 simp only [ak.c, List.cons.injEq, AV.at.injEq, Value.int.injEq, Value.bool.injEq, true_and, and_true, eC] at h
 simp_all

structure aI where
 X : ai
 Y : ai
 deriving Inhabited

def aI.c (x : aI) : List AV := [.at (.bool x.X.Num.Negative), slT (iC .u32) x.X.Num.Groups, .at (.bool x.X.Den.Negative), slT (iC .u32) x.X.Den.Groups, .at (.bool x.Y.Num.Negative), slT (iC .u32) x.Y.Num.Groups, .at (.bool x.Y.Den.Negative), slT (iC .u32) x.Y.Den.Groups]
theorem aI.len : ∀ x, (aI.c x).length = 8 := fun _ => rfl
theorem aI.pure : ∀ x, dH (aI.c x) = [] := fun _ => rfl

def al.c (x : al) : List AV := [.at (.int .i64 x.X0), .at (.int .i64 x.Y0), .at (.int .i64 x.Step), .at (.int .i64 x.Width), .at (.int .i64 x.Height), slT (iC .i64) x.Z]
theorem al.len : ∀ x, (al.c x).length = 6 := fun _ => rfl
theorem al.pure : ∀ x, dH (al.c x) = [] := fun _ => rfl

def ai.c (x : ai) : List AV := [.at (.bool x.Num.Negative), slT (iC .u32) x.Num.Groups, .at (.bool x.Den.Negative), slT (iC .u32) x.Den.Groups]
theorem ai.len : ∀ x, (ai.c x).length = 4 := fun _ => rfl
theorem ai.pure : ∀ x, dH (ai.c x) = [] := fun _ => rfl

def ah.c (x : ah) : List AV := [.at (.bool x.Negative), slT (iC .u32) x.Groups]
theorem ah.len : ∀ x, (ah.c x).length = 2 := fun _ => rfl
theorem ah.pure : ∀ x, dH (ah.c x) = [] := fun _ => rfl

def di (n : Nat) : Option (al) :=
 some (al.mk 0 0 2 3 3 [(0 : Int), (0 : Int), (0 : Int), (0 : Int), (4 : Int), (0 : Int), (0 : Int), (0 : Int), (0 : Int)])

def eX (n : Nat) (n' : Int) : Option (Bool) :=
 cdO (decide (n' >= 2)) (
 some (decide (n' <= 64))
 ) (
 some (false)
 )

def iR (n : Nat) (n' : Int) : Option (Bool) :=
 cdO (decide (n' < (-1048576))) (
 some (true)
 ) (
 some (decide (n' > 1048576))
 )

def jl (n : Nat) (z : Int) : Option (Bool) :=
 cdO ((z : Int) != (-2147483648)) (
 bdO (iR n z) fun v2 => (
 some (v2)
 )
 ) (
 some (false)
 )

def cf (n : Nat) (s : List Int) : Option (Int) :=
 bdO (aM (α := Int) (β := Sum (Unit) (Int)) n (fun again7 x_1 => (
 cdO (decide (x_1 < (s.length : Int))) (
 gdO (inR x_1 s.length) (
 bdO (jl n (gt s x_1)) fun v10 => (
 cdO v10 (
 some (Sum.inr (x_1))
 ) (
 again7 (Fj (x_1 + 1))
 )
 )
 )
 ) (
 some (Sum.inl ())
 )
 )) 0) fun o13 => (
 match o13 with
 | .inl _ => (
 some ((-1))
 )
 | .inr (r0) => (
 some r0
 ))

def bn (n : Nat) (s : List Int) : Option (Bool) :=
 bdO (cf n s) fun v1 => (
 some (decide (v1 >= 0))
 )

def jz (n : Nat) (g : al) : Option (Int) :=
 bdO (eX n g.Width) fun v1 => (
 cdO (!v1) (
 some (2)
 ) (
 bdO (eX n g.Height) fun v4 => (
 cdO (!v4) (
 some (2)
 ) (
 cdO (decide (g.Step < 2)) (
 some (2)
 ) (
 cdO (decide (g.Step > 65536)) (
 some (2)
 ) (
 cdO (((g.Step.tmod 2) : Int) != 0) (
 some (2)
 ) (
 bdO (iR n g.X0) fun v10 => (
 cdO v10 (
 some (2)
 ) (
 bdO (iR n g.Y0) fun v13 => (
 cdO v13 (
 some (2)
 ) (
 cdO (((g.Z.length : Int) : Int) != (Fj (g.Width * g.Height))) (
 some (4)
 ) (
 bdO (bn n g.Z) fun v17 => (
 cdO v17 (
 some (2)
 ) (
 some (0)
 )
 )
 )
 )
 )
 )
 )
 )
 )
 )
 )
 )
 )
 )

def dD (n : Nat) (g : al) (level : Int) : Option (Int) :=
 bdO (jz n g) fun v1 => (
 cdO ((v1 : Int) != 0) (
 some (v1)
 ) (
 cdO (((level.tmod 2) : Int) == 0) (
 some (1)
 ) (
 cdO (decide (level < (-2097153))) (
 some (2)
 ) (
 cdO (decide (level > 2097153)) (
 some (2)
 ) (
 some (0)
 )
 )
 )
 )
 )

def e8 (n : Nat) (k : Int) (p : Int) (p' : Int) (p'' : Int) (AU : Int) (wQ : Int) (iI : List Int) (lJ : Int) : Option (Bool) :=
 gdO (inR k iI.length) (
 some (decide ((Fj (2 * (gt iI k))) > lJ))
 )

def lG (n : Nat) (a : Int) (b : Int) : Option (A2 Int) :=
 some (A2.mk (mn a b) (mx a b))

def lQ (n : Nat) (t : A3 Int) (c : Int) (c' : Int) (c'' : Int) (wA : Int) (rV : Int) (oM : List Int) (mv : Int) (p : List (A2 Int × A2 Int)) (p' : List (A2 Int × Bool)) : Option (List (A2 Int × A2 Int) × List (A2 Int × Bool)) :=
 bdO (aM (α := Int × Int × Int × Int × Bool × Int) (β := Int × Int × Int × Int × Bool) n (fun again110 (f_71, f_72, t_73, t_74, c_75, x_76) => (
 cdO (decide (x_76 < 3)) (
 gdO (inR x_76 3) (
 gdO (inR ((Fj (x_76 + 1)).tmod 3) 3) (
 bdO (some (A3.get t ((Fj (x_76 + 1)).tmod 3))) fun w115 => (
 bdO (α := Bool) (
 bdO (e8 n (A3.get t x_76) c c' c'' wA rV oM mv) fun v120 => (
 cdO v120 (
 bdO (e8 n w115 c c' c'' wA rV oM mv) fun v123 => (
 some (!v123)
 )
 ) (
 some (false)
 )
 )
 ) fun x_119 => (
 cdO x_119 (
 bdO (lG n (A3.get t x_76) w115) fun v129 => (
 again110 (v129.e0, v129.e1, t_73, t_74, true, Fj (x_76 + 1))
 )
 ) (
 bdO (e8 n (A3.get t x_76) c c' c'' wA rV oM mv) fun v131 => (
 cdO (!v131) (
 bdO (e8 n w115 c c' c'' wA rV oM mv) fun v134 => (
 cdO v134 (
 bdO (lG n (A3.get t x_76) w115) fun v137 => (
 again110 (f_71, f_72, v137.e0, v137.e1, c_75, Fj (x_76 + 1))
 )
 ) (
 again110 (f_71, f_72, t_73, t_74, c_75, Fj (x_76 + 1))
 )
 )
 ) (
 again110 (f_71, f_72, t_73, t_74, c_75, Fj (x_76 + 1))
 )
 )
 )
 )
 )
 )
 )
 ) (
 some ((f_71, f_72, t_73, t_74, c_75))
 )
 )) (0, 0, 0, 0, false, 0)) fun o139 => (
 match o139 with
 | (f_105, f_106, t_107, t_108, c_109) => (
 cdO c_109 (
 some ((ky p (A2.mk f_105 f_106) (A2.mk t_107 t_108), ky p' (A2.mk t_107 t_108) true))
 ) (
 some ((p, p'))
 )
 ))

def bh (n : Nat) (g : al) (c : Int) (c' : Int) (c'' : Int) (wA : Int) (rV : Int) (oM : List Int) (mv : Int) (qy : List (A2 Int × A2 Int)) (pz : List (A2 Int × Bool)) : Option (List (A2 Int × A2 Int) × List (A2 Int × Bool)) :=
 bdO (aM (α := List (A2 Int × A2 Int) × List (A2 Int × Bool) × Int) (β := List (A2 Int × A2 Int) × List (A2 Int × Bool)) n (fun again272 (c_182, c_183, x_184) => (
 cdO (decide (x_184 < (Fj (g.Height - 1)))) (
 bdO (aM (α := List (A2 Int × A2 Int) × List (A2 Int × Bool) × Int) (β := List (A2 Int × A2 Int) × List (A2 Int × Bool)) n (fun again317 (c_275, c_276, x_277) => (
 cdO (decide (x_277 < (Fj (g.Width - 1)))) (
 bdO (some (Fj ((Fj (x_184 * g.Width)) + x_277))) fun w320 => (
 bdO (some [A3.mk w320 (Fj (w320 + 1)) (Fj ((Fj (w320 + g.Width)) + 1)), A3.mk w320 (Fj ((Fj (w320 + g.Width)) + 1)) (Fj (w320 + g.Width))]) fun w322 => (
 bdO (aM (α := List (A2 Int × A2 Int) × List (A2 Int × Bool) × Int) (β := List (A2 Int × A2 Int) × List (A2 Int × Bool)) n (fun again340 (c_324, c_325, x_326) => (
 cdO (decide (x_326 < 2)) (
 gdO (inR x_326 w322.length) (
 gdO (inR (gt w322 x_326).e0 g.Z.length) (
 cdO (((gt g.Z (gt w322 x_326).e0) : Int) != (-2147483648)) (
 gdO (inR (gt w322 x_326).e1 g.Z.length) (
 cdO (((gt g.Z (gt w322 x_326).e1) : Int) != (-2147483648)) (
 gdO (inR (gt w322 x_326).e2 g.Z.length) (
 cdO (((gt g.Z (gt w322 x_326).e2) : Int) != (-2147483648)) (
 bdO (lQ n (gt w322 x_326) c c' c'' wA rV oM mv c_324 c_325) fun v350 => (
 again340 (v350.1, v350.2, Fj (x_326 + 1))
 )
 ) (
 again340 (c_324, c_325, Fj (x_326 + 1))
 )
 )
 ) (
 again340 (c_324, c_325, Fj (x_326 + 1))
 )
 )
 ) (
 again340 (c_324, c_325, Fj (x_326 + 1))
 )
 )
 )
 ) (
 some ((c_324, c_325))
 )
 )) (c_275, c_276, 0)) fun o352 => (
 match o352 with
 | (c_338, c_339) => (
 again317 (c_338, c_339, Fj (x_277 + 1))
 ))
 )
 )
 ) (
 some ((c_275, c_276))
 )
 )) (c_182, c_183, 0)) fun o355 => (
 match o355 with
 | (c_315, c_316) => (
 again272 (c_315, c_316, Fj (x_184 + 1))
 ))
 ) (
 some ((c_182, c_183))
 )
 )) (qy, pz, 0)) fun o358 => (
 match o358 with
 | (c_270, c_271) => (
 some ((c_270, c_271))
 ))

def m6 (n : Nat) (x' : Int) : Option (Int) :=
 cdO (decide (x' >= 4294967296)) (
 cdO (decide ((x'.fdiv (2 ^ 32)) >= 65536)) (
 cdO (decide (((x'.fdiv (2 ^ 32)).fdiv (2 ^ 16)) >= 256)) (
 bdO (some (((x'.fdiv (2 ^ 32)).fdiv (2 ^ 16)).fdiv (2 ^ 8))) fun w4 => (
 gdO (inR (aa .u8 w4) 256) (
 some (Fj (56 + (Fj (iO gb (aa .u8 w4)))))
 )
 )
 ) (
 gdO (inR (aa .u8 ((x'.fdiv (2 ^ 32)).fdiv (2 ^ 16))) 256) (
 some (Fj (48 + (Fj (iO gb (aa .u8 ((x'.fdiv (2 ^ 32)).fdiv (2 ^ 16)))))))
 )
 )
 ) (
 cdO (decide ((x'.fdiv (2 ^ 32)) >= 256)) (
 gdO (inR (aa .u8 ((x'.fdiv (2 ^ 32)).fdiv (2 ^ 8))) 256) (
 some (Fj (40 + (Fj (iO gb (aa .u8 ((x'.fdiv (2 ^ 32)).fdiv (2 ^ 8)))))))
 )
 ) (
 gdO (inR (aa .u8 (x'.fdiv (2 ^ 32))) 256) (
 some (Fj (32 + (Fj (iO gb (aa .u8 (x'.fdiv (2 ^ 32)))))))
 )
 )
 )
 ) (
 cdO (decide (x' >= 65536)) (
 cdO (decide ((x'.fdiv (2 ^ 16)) >= 256)) (
 gdO (inR (aa .u8 ((x'.fdiv (2 ^ 16)).fdiv (2 ^ 8))) 256) (
 some (Fj (24 + (Fj (iO gb (aa .u8 ((x'.fdiv (2 ^ 16)).fdiv (2 ^ 8)))))))
 )
 ) (
 gdO (inR (aa .u8 (x'.fdiv (2 ^ 16))) 256) (
 some (Fj (16 + (Fj (iO gb (aa .u8 (x'.fdiv (2 ^ 16)))))))
 )
 )
 ) (
 cdO (decide (x' >= 256)) (
 gdO (inR (aa .u8 (x'.fdiv (2 ^ 8))) 256) (
 some (Fj (8 + (Fj (iO gb (aa .u8 (x'.fdiv (2 ^ 8)))))))
 )
 ) (
 gdO (inR (aa .u8 x') 256) (
 some (Fj (0 + (Fj (iO gb (aa .u8 x')))))
 )
 )
 )
 )

def kH (n : Nat) (x' : Int) : Option (Int) :=
 bdO (m6 n x') fun v1 => (
 some (v1)
 )

def gK (n : Nat) (a : A2 Int) (b : A2 Int) : Option (Int) :=
 cdO ((a.e0 : Int) != b.e0) (
 some (Fj (a.e0 - b.e0))
 ) (
 some (Fj (a.e1 - b.e1))
 )

def bm (n : Nat) (data : List (A2 Int)) (a : Int) (b : Int) : Option (List (A2 Int)) :=
 bdO (aM (α := List (A2 Int) × Int) (β := List (A2 Int)) n (fun again72 (d_49, i_50) => (
 cdO (decide (i_50 < b)) (
 bdO (aM (α := List (A2 Int) × Int) (β := List (A2 Int)) n (fun again83 (d_74, j_75) => (
 cdO (decide (j_75 > a)) (
 gdO (inR j_75 d_74.length) (
 gdO (inR (Fj (j_75 - 1)) d_74.length) (
 bdO (gK n (gt d_74 j_75) (gt d_74 (Fj (j_75 - 1)))) fun v87 => (
 cdO (decide (v87 < 0)) (
 again83 ((d_74.set j_75.toNat (gt d_74 (Fj (j_75 - 1)))).set (Fj (j_75 - 1)).toNat (gt d_74 j_75), Fj (j_75 - 1))
 ) (
 some (d_74)
 )
 )
 )
 )
 ) (
 some (d_74)
 )
 )) (d_49, i_50)) fun d_82 => (
 again72 (d_82, Fj (i_50 + 1))
 )
 ) (
 some (d_49)
 )
 )) (data, Fj (a + 1))) fun d_71 => (
 some (d_71)
 )

def bz (n : Nat) (data : List (A2 Int)) (a : Int) (b : Int) (limit : Int) : Option (List (A2 Int)) :=
 bdO (aM (α := Int × Int × Int × Bool × Bool) (β := List (A2 Int)) n (fun again31 (a_21, b_22, l_23, w_24, w_25) => (
 gdO ((decide ((Fj (b_22 - a_21)) <= 12))) (
 bdO (bm n data a_21 b_22) fun v33 => (
 some (v33)
 )
 )
 )) (a, b, limit, true, true)) fun r0 => (
 some r0
 )

def aJ (n : Nat) (x' : List (A2 Int)) : Option (List (A2 Int)) :=
 bdO (kH n (aa .u64 (x'.length : Int))) fun v6 => (
 bdO (bz n x' 0 (x'.length : Int) v6) fun v8 => (
 some (v8)
 )
 )

def cU (n : Nat) (n' : Int) : Option (List Int) :=
 bdO (aM (α := Int × List Int) (β := List Int) n (fun again7 (n_1, g_2) => (
 cdO (decide (n_1 > 0)) (
 gdO (decide ((g_2.length + 1) * 4 <= 140737488355328)) (
 gdO (decide (g_2.length + 1 <= 4611686018427387904)) (
 again7 (aa .u64 (n_1.tdiv 1000000000), g_2 ++ [aa .u32 (n_1.tmod 1000000000)])
 )
 )
 ) (
 some (g_2)
 )
 )) (n', [])) fun g_6 => (
 some (g_6)
 )

def dY (n : Nat) (g : List Int) : Option (List Int) :=
 bdO (aM (α := List Int) (β := List Int) n (fun again7 g_1 => (
 cdO (decide ((g_1.length : Int) > 0)) (
 gdO (inR (Fj ((g_1.length : Int) - 1)) g_1.length) (
 cdO (((gt g_1 (Fj ((g_1.length : Int) - 1))) : Int) == 0) (
 gdO (inS 0 (Fj ((g_1.length : Int) - 1)) g_1.length) (
 again7 ((g_1.drop (0 : Int).toNat).take ((Fj ((g_1.length : Int) - 1)).toNat - (0 : Int).toNat))
 )
 ) (
 some (g_1)
 )
 )
 ) (
 some (g_1)
 )
 )) g) fun g_6 => (
 some (g_6)
 )

def bV (n : Nat) (negative : Bool) (g : List Int) : Option (ah) :=
 bdO (dY n g) fun v1 => (
 cdO (((v1.length : Int) : Int) == 0) (
 some (ah.mk false [])
 ) (
 some (ah.mk negative v1)
 )
 )

def fL (n : Nat) (n' : Int) : Option (ah) :=
 cdO (decide (n' < 0)) (
 bdO (cU n (aa .u64 (0 - (aa .u64 n')))) fun v2 => (
 bdO (bV n true v2) fun v4 => (
 some (v4)
 )
 )
 ) (
 bdO (cU n (aa .u64 n')) fun v6 => (
 bdO (bV n false v6) fun v8 => (
 some (v8)
 )
 )
 )

def m5 (n : Nat) (g : Int) : Option (Bool) :=
 some (decide (g >= 1000000000))

def bG (n : Nat) (s : List Int) : Option (Int) :=
 bdO (aM (α := Int) (β := Sum (Unit) (Int)) n (fun again7 x_1 => (
 cdO (decide (x_1 < (s.length : Int))) (
 gdO (inR x_1 s.length) (
 bdO (m5 n (gt s x_1)) fun v10 => (
 cdO v10 (
 some (Sum.inr (x_1))
 ) (
 again7 (Fj (x_1 + 1))
 )
 )
 )
 ) (
 some (Sum.inl ())
 )
 )) 0) fun o13 => (
 match o13 with
 | .inl _ => (
 some ((-1))
 )
 | .inr (r0) => (
 some r0
 ))

def ba (n : Nat) (s : List Int) : Option (Bool) :=
 bdO (bG n s) fun v1 => (
 some (decide (v1 >= 0))
 )

def eI (n : Nat) (x' : ah) : Option (Bool) :=
 cdO (((x'.Groups.length : Int) : Int) == 0) (
 some (!x'.Negative)
 ) (
 gdO (inR (Fj ((x'.Groups.length : Int) - 1)) x'.Groups.length) (
 cdO (((gt x'.Groups (Fj ((x'.Groups.length : Int) - 1))) : Int) != 0) (
 bdO (ba n x'.Groups) fun v4 => (
 some (!v4)
 )
 ) (
 some (false)
 )
 )
 )

def fg (n : Nat) (n' : ah) : Option (ah) :=
 bdO (eI n n') fun v1 => (
 cdO v1 (
 some (n')
 ) (
 bdO (fL n 0) fun v4 => (
 some (v4)
 )
 )
 )

def bJ (n : Nat) (x' : ah) : Option (List Int) :=
 bdO (eI n x') fun v1 => (
 cdO (!v1) (
 some ([])
 ) (
 some (x'.Groups)
 )
 )

def dM (n : Nat) (x' : ah) : Option (Int) :=
 bdO (bJ n x') fun v1 => (
 cdO (((v1.length : Int) : Int) == 0) (
 some (0)
 ) (
 cdO x'.Negative (
 some ((-1))
 ) (
 some (1)
 )
 )
 )

def cx (n : Nat) (s : List Int) : Option (List Int) :=
 gdO (decide ((0 + s.length) * 4 <= 140737488355328)) (
 gdO (decide (0 + s.length <= 4611686018427387904)) (
 some (s)
 )
 )

def eG (n : Nat) (x' : ah) : Option (ah) :=
 bdO (bJ n x') fun v1 => (
 bdO (cx n v1) fun v3 => (
 bdO (bV n (!x'.Negative) v3) fun v5 => (
 some (v5)
 )
 )
 )




def jD (n : Nat) (a : List Int) (b : List Int) : Option (List Int) :=
 gdO (decide (0 <= Fj ((a.length : Int) + (b.length : Int)))) (
 gdO (decide ((4 : Int) * (Fj ((a.length : Int) + (b.length : Int))) <= 281474976710656)) (
 gdO (decide (Fj ((a.length : Int) + (b.length : Int)) <= 9223372036854775807)) (
 bdO (aM (α := List Int × Int) (β := List Int) n (fun again25 (o_4, x_5) => (
 cdO (decide (x_5 < (a.length : Int))) (
 gdO (inR x_5 a.length) (
 bdO (aM (α := List Int × Int × Int) (β := List Int × Int) n (fun again36 (o_28, c_29, x_30) => (
 cdO (decide (x_30 < (b.length : Int))) (
 gdO (inR x_30 b.length) (
 gdO (inR (Fj (x_5 + x_30)) o_28.length) (
 again36 (o_28.set (Fj (x_5 + x_30)).toNat (aa .u32 ((aa .u64 ((aa .u64 ((aa .u64 (gt o_28 (Fj (x_5 + x_30)))) + (aa .u64 ((aa .u64 (gt a x_5)) * (aa .u64 (gt b x_30)))))) + c_29)).tmod 1000000000)), aa .u64 ((aa .u64 ((aa .u64 ((aa .u64 (gt o_28 (Fj (x_5 + x_30)))) + (aa .u64 ((aa .u64 (gt a x_5)) * (aa .u64 (gt b x_30)))))) + c_29)).tdiv 1000000000), Fj (x_30 + 1))
 )
 )
 ) (
 some ((o_28, c_29))
 )
 )) (o_4, 0, 0)) fun o40 => (
 match o40 with
 | (o_34, c_35) => (
 gdO (inR (Fj (x_5 + (b.length : Int))) o_34.length) (
 again25 (o_34.set (Fj (x_5 + (b.length : Int))).toNat (aa .u32 c_35), Fj (x_5 + 1))
 )
 ))
 )
 ) (
 some (o_4)
 )
 )) (List.replicate (Fj ((a.length : Int) + (b.length : Int))).toNat ((0 : Int) : Int), 0)) fun o_24 => (
 bdO (dY n o_24) fun v47 => (
 some (v47)
 )
 )
 )
 )
 )

def nC (n : Nat) (g : List Int) : Option (List Int) :=
 bdO (aM (α := List Int) (β := List Int) n (fun again22 g_16 => (
 cdO (decide ((g_16.length : Int) > 0)) (
 gdO (inR (Fj ((g_16.length : Int) - 1)) g_16.length) (
 cdO (((gt g_16 (Fj ((g_16.length : Int) - 1))) : Int) == 0) (
 gdO (inS 0 (Fj ((g_16.length : Int) - 1)) g_16.length) (
 again22 (g_16.take (Fj ((g_16.length : Int) - 1)).toNat)
 )
 ) (
 some (g_16)
 )
 )
 ) (
 some (g_16)
 )
 )) g) fun g_21 => (
 some (g_21)
 )

def ji (n : Nat) (a : List Int) (b : List Int) : Option (List Int) :=
 gdO (decide (0 <= Fj ((a.length : Int) + (b.length : Int)))) (
 gdO (decide ((4 : Int) * (Fj ((a.length : Int) + (b.length : Int))) <= 281474976710656)) (
 gdO (decide (Fj ((a.length : Int) + (b.length : Int)) <= 9223372036854775807)) (
 bdO (aM (α := List Int × Int) (β := List Int) n (fun again74 (o_53, x_54) => (
 cdO (decide (x_54 < (a.length : Int))) (
 gdO (inR x_54 a.length) (
 bdO (aM (α := List Int × Int × Int) (β := List Int × Int) n (fun again85 (o_77, c_78, x_79) => (
 cdO (decide (x_79 < (b.length : Int))) (
 gdO (inR x_79 b.length) (
 gdO (inR (Fj (x_54 + x_79)) o_77.length) (
 again85 (o_77.set (Fj (x_54 + x_79)).toNat (aa .u32 ((aa .u64 ((aa .u64 ((aa .u64 (gt o_77 (Fj (x_54 + x_79)))) + (aa .u64 ((aa .u64 (gt a x_54)) * (aa .u64 (gt b x_79)))))) + c_78)).tmod 1000000000)), aa .u64 ((aa .u64 ((aa .u64 ((aa .u64 (gt o_77 (Fj (x_54 + x_79)))) + (aa .u64 ((aa .u64 (gt a x_54)) * (aa .u64 (gt b x_79)))))) + c_78)).tdiv 1000000000), Fj (x_79 + 1))
 )
 )
 ) (
 some ((o_77, c_78))
 )
 )) (o_53, 0, 0)) fun o89 => (
 match o89 with
 | (o_83, c_84) => (
 gdO (inR (Fj (x_54 + (b.length : Int))) o_83.length) (
 again74 (o_83.set (Fj (x_54 + (b.length : Int))).toNat (aa .u32 c_84), Fj (x_54 + 1))
 )
 ))
 )
 ) (
 some (o_53)
 )
 )) (List.replicate (Fj ((a.length : Int) + (b.length : Int))).toNat ((0 : Int) : Int), 0)) fun o_73 => (
 bdO (nC n o_73) fun v96 => (
 some (v96)
 )
 )
 )
 )
 )

def gw (n : Nat) (g : List Int) (i : Int) : Option (Int) :=
 cdO (decide (i < (g.length : Int))) (
 gdO (inR i g.length) (
 some ((gt g i))
 )
 ) (
 some (0)
 )

def iX (n : Nat) (a : List Int) (b : List Int) : Option (List Int × List Int) :=
 gdO (inR (Fj ((b.length : Int) - 1)) b.length) (
 gdO (!decide (aa .u64 ((aa .u64 (gt b (Fj ((b.length : Int) - 1)))) + 1) = 0)) (
 bdO (ji n a [aa .u32 (aa .u64 ((1000000000 : Int).tdiv (aa .u64 ((aa .u64 (gt b (Fj ((b.length : Int) - 1)))) + 1))))]) fun v3 => (
 bdO (ji n b [aa .u32 (aa .u64 ((1000000000 : Int).tdiv (aa .u64 ((aa .u64 (gt b (Fj ((b.length : Int) - 1)))) + 1))))]) fun v5 => (
 gdO (decide ((v3.length + 1) * 4 <= 140737488355328)) (
 gdO (decide (v3.length + 1 <= 4611686018427387904)) (
 bdO (α := List Int) (
 cdO (decide (((v3 ++ [(0 : Int)]).length : Int) <= (a.length : Int))) (
 gdO (decide (((v3 ++ [(0 : Int)]).length + 1) * 4 <= 140737488355328)) (
 gdO (decide ((v3 ++ [(0 : Int)]).length + 1 <= 4611686018427387904)) (
 some ((v3 ++ [(0 : Int)]) ++ [(0 : Int)])
 )
 )
 ) (
 some (v3 ++ [(0 : Int)])
 )
 ) fun u_9 => (
 gdO (decide (0 <= Fj ((u_9.length : Int) - (v5.length : Int)))) (
 gdO (decide ((4 : Int) * (Fj ((u_9.length : Int) - (v5.length : Int))) <= 281474976710656)) (
 gdO (decide (Fj ((u_9.length : Int) - (v5.length : Int)) <= 9223372036854775807)) (
 bdO (aM (α := List Int × List Int × Int) (β := List Int × List Int) n (fun again129 (q_19, u_20, j_21) => (
 cdO (decide (j_21 >= 0)) (
 bdO (gw n u_20 (Fj (j_21 + (v5.length : Int)))) fun v132 => (
 gdO (inR (Fj ((Fj (j_21 + (v5.length : Int))) - 1)) u_20.length) (
 gdO (inR (Fj ((v5.length : Int) - 1)) v5.length) (
 gdO (!decide (aa .u64 (gt v5 (Fj ((v5.length : Int) - 1))) = 0)) (
 bdO (aM (α := Int × Int) (β := Int) n (fun again165 (g_156, r_157) => (
 cdO (decide (g_156 >= 1000000000)) (
 cdO (decide ((aa .u64 (r_157 + (aa .u64 (gt v5 (Fj ((v5.length : Int) - 1)))))) >= 1000000000)) (
 some (aa .u64 (g_156 - 1))
 ) (
 again165 (aa .u64 (g_156 - 1), aa .u64 (r_157 + (aa .u64 (gt v5 (Fj ((v5.length : Int) - 1))))))
 )
 ) (
 gdO (inR (Fj ((v5.length : Int) - 2)) v5.length) (
 gdO (inR (Fj ((Fj (j_21 + (v5.length : Int))) - 2)) u_20.length) (
 cdO (decide ((aa .u64 (g_156 * (aa .u64 (gt v5 (Fj ((v5.length : Int) - 2)))))) > (aa .u64 ((aa .u64 (r_157 * 1000000000)) + (aa .u64 (gt u_20 (Fj ((Fj (j_21 + (v5.length : Int))) - 2)))))))) (
 cdO (decide ((aa .u64 (r_157 + (aa .u64 (gt v5 (Fj ((v5.length : Int) - 1)))))) >= 1000000000)) (
 some (aa .u64 (g_156 - 1))
 ) (
 again165 (aa .u64 (g_156 - 1), aa .u64 (r_157 + (aa .u64 (gt v5 (Fj ((v5.length : Int) - 1))))))
 )
 ) (
 some (g_156)
 )
 )
 )
 )
 )) (aa .u64 ((aa .u64 ((aa .u64 ((aa .u64 v132) * 1000000000)) + (aa .u64 (gt u_20 (Fj ((Fj (j_21 + (v5.length : Int))) - 1)))))).tdiv (aa .u64 (gt v5 (Fj ((v5.length : Int) - 1))))), (aa .u64 ((aa .u64 ((aa .u64 v132) * 1000000000)) + (aa .u64 (gt u_20 (Fj ((Fj (j_21 + (v5.length : Int))) - 1)))))).tmod (aa .u64 (gt v5 (Fj ((v5.length : Int) - 1)))))) fun g_164 => (
 bdO (aM (α := List Int × Int × Int × Int) (β := List Int × Int × Int) n (fun again205 (u_194, b_195, c_196, x_197) => (
 cdO (decide (x_197 < (v5.length : Int))) (
 gdO (inR x_197 v5.length) (
 gdO (inR (Fj (x_197 + j_21)) u_194.length) (
 cdO (decide ((Fj ((Fj ((Fj (gt u_194 (Fj (x_197 + j_21)))) - b_195)) - (Fj ((aa .u64 ((aa .u64 (g_164 * (aa .u64 (gt v5 x_197)))) + c_196)).tmod 1000000000)))) < 0)) (
 again205 (u_194.set (Fj (x_197 + j_21)).toNat (aa .u32 (Fj ((Fj ((Fj ((Fj (gt u_194 (Fj (x_197 + j_21)))) - b_195)) - (Fj ((aa .u64 ((aa .u64 (g_164 * (aa .u64 (gt v5 x_197)))) + c_196)).tmod 1000000000)))) + 1000000000))), 1, aa .u64 ((aa .u64 ((aa .u64 (g_164 * (aa .u64 (gt v5 x_197)))) + c_196)).tdiv 1000000000), Fj (x_197 + 1))
 ) (
 again205 (u_194.set (Fj (x_197 + j_21)).toNat (aa .u32 (Fj ((Fj ((Fj (gt u_194 (Fj (x_197 + j_21)))) - b_195)) - (Fj ((aa .u64 ((aa .u64 (g_164 * (aa .u64 (gt v5 x_197)))) + c_196)).tmod 1000000000))))), 0, aa .u64 ((aa .u64 ((aa .u64 (g_164 * (aa .u64 (gt v5 x_197)))) + c_196)).tdiv 1000000000), Fj (x_197 + 1))
 )
 )
 )
 ) (
 some ((u_194, b_195, c_196))
 )
 )) (u_20, 0, 0, 0)) fun o210 => (
 match o210 with
 | (u_202, b_203, c_204) => (
 gdO (inR (Fj (j_21 + (v5.length : Int))) u_202.length) (
 cdO (decide ((Fj ((Fj ((Fj (gt u_202 (Fj (j_21 + (v5.length : Int))))) - b_203)) - (Fj c_204))) < 0)) (
 bdO (aM (α := List Int × Int × Int) (β := List Int × Int) n (fun again224 (u_215, c_216, x_217) => (
 cdO (decide (x_217 < (v5.length : Int))) (
 gdO (inR (Fj (x_217 + j_21)) u_215.length) (
 gdO (inR x_217 v5.length) (
 cdO (decide ((aa .u32 ((aa .u32 ((gt u_215 (Fj (x_217 + j_21))) + (gt v5 x_217))) + c_216)) >= 1000000000)) (
 again224 (u_215.set (Fj (x_217 + j_21)).toNat (aa .u32 ((aa .u32 ((aa .u32 ((gt u_215 (Fj (x_217 + j_21))) + (gt v5 x_217))) + c_216)) - 1000000000)), 1, Fj (x_217 + 1))
 ) (
 again224 (u_215.set (Fj (x_217 + j_21)).toNat (aa .u32 ((aa .u32 ((gt u_215 (Fj (x_217 + j_21))) + (gt v5 x_217))) + c_216)), 0, Fj (x_217 + 1))
 )
 )
 )
 ) (
 some ((u_215, c_216))
 )
 )) (u_202.set (Fj (j_21 + (v5.length : Int))).toNat (aa .u32 (Fj ((Fj ((Fj ((Fj (gt u_202 (Fj (j_21 + (v5.length : Int))))) - b_203)) - (Fj c_204))) + 1000000000))), 0, 0)) fun o229 => (
 match o229 with
 | (u_222, c_223) => (
 gdO (inR (Fj (j_21 + (v5.length : Int))) u_222.length) (
 gdO (inR j_21 q_19.length) (
 again129 (q_19.set j_21.toNat (aa .u32 (aa .u64 (g_164 - 1))), u_222.set (Fj (j_21 + (v5.length : Int))).toNat ((aa .u32 ((gt u_222 (Fj (j_21 + (v5.length : Int)))) + c_223)).tmod 1000000000), Fj (j_21 - 1))
 )
 )
 ))
 ) (
 gdO (inR j_21 q_19.length) (
 again129 (q_19.set j_21.toNat (aa .u32 g_164), u_202.set (Fj (j_21 + (v5.length : Int))).toNat (aa .u32 (Fj ((Fj ((Fj (gt u_202 (Fj (j_21 + (v5.length : Int))))) - b_203)) - (Fj c_204)))), Fj (j_21 - 1))
 )
 )
 )
 ))
 )
 )
 )
 )
 )
 ) (
 some ((q_19, u_20))
 )
 )) (List.replicate (Fj ((u_9.length : Int) - (v5.length : Int))).toNat ((0 : Int) : Int), u_9, Fj ((Fj ((u_9.length : Int) - (v5.length : Int))) - 1))) fun o235 => (
 match o235 with
 | (q_127, u_128) => (
 gdO (inS 0 (v5.length : Int) u_128.length) (
 bdO (dY n (u_128.take (v5.length : Int).toNat)) fun v239 => (
 bdO (fr n v239 (aa .u32 (aa .u64 ((1000000000 : Int).tdiv (aa .u64 ((aa .u64 (gt b (Fj ((b.length : Int) - 1)))) + 1)))))) fun v241 => (
 bdO (dY n q_127) fun v243 => (
 some ((v243, v241.1))
 )
 )
 )
 )
 ))
 )
 )
 )
 )
 )
 )
 )
 )
 )
 )

def gV (n : Nat) (a : List Int) (b : List Int) : Option (List Int × List Int) :=
 bdO (fP n a b) fun v1 => (
 cdO (decide (v1 < 0)) (
 some (([], a))
 ) (
 bdO (gW n a) fun v4 => (
 bdO (gW n b) fun v6 => (
 cdO v4.2 (
 cdO v6.2 (
 gdO (!decide (v6.1 = 0)) (
 bdO (cU n (aa .u64 (v4.1.tdiv v6.1))) fun v11 => (
 bdO (cU n (v4.1.tmod v6.1)) fun v13 => (
 some ((v11, v13))
 )
 )
 )
 ) (
 cdO (((b.length : Int) : Int) == 1) (
 gdO (inR 0 b.length) (
 bdO (fr n a (gt b 0)) fun v17 => (
 bdO (cU n (aa .u64 v17.2)) fun v19 => (
 some ((v17.1, v19))
 )
 )
 )
 ) (
 bdO (iX n a b) fun v21 => (
 some ((v21.1, v21.2))
 )
 )
 )
 ) (
 cdO (((b.length : Int) : Int) == 1) (
 gdO (inR 0 b.length) (
 bdO (fr n a (gt b 0)) fun v25 => (
 bdO (cU n (aa .u64 v25.2)) fun v27 => (
 some ((v25.1, v27))
 )
 )
 )
 ) (
 bdO (iX n a b) fun v29 => (
 some ((v29.1, v29.2))
 )
 )
 )
 )
 )
 )
 )

def iT (n : Nat) (x' : ah) (y : ah) : Option (ah) :=
 bdO (bJ n x') fun v1 => (
 bdO (bJ n y) fun v3 => (
 bdO (aM (α := List Int × List Int) (β := Sum (List Int) (ah)) n (fun again34 (a_5, b_6) => (
 cdO (decide ((b_6.length : Int) > 0)) (
 bdO (gW n a_5) fun v36 => (
 bdO (gW n b_6) fun v38 => (
 cdO v36.2 (
 cdO v38.2 (
 bdO (aM (α := Int × Int) (β := Int) n (fun again47 (m_42, n_43) => (
 cdO (decide (n_43 > 0)) (
 gdO (!decide (n_43 = 0)) (
 again47 (n_43, m_42.tmod n_43)
 )
 ) (
 some (m_42)
 )
 )) (v36.1, v38.1)) fun m_46 => (
 bdO (cU n m_46) fun v53 => (
 bdO (bV n false v53) fun v55 => (
 some (Sum.inr (v55))
 )
 )
 )
 ) (
 bdO (gV n a_5 b_6) fun v57 => (
 again34 (b_6, v57.2)
 )
 )
 ) (
 bdO (gV n a_5 b_6) fun v59 => (
 again34 (b_6, v59.2)
 )
 )
 )
 )
 ) (
 some (Sum.inl a_5)
 )
 )) (v1, v3)) fun o61 => (
 match o61 with
 | .inl a_33 => (
 bdO (cx n a_33) fun v64 => (
 bdO (bV n false v64) fun v66 => (
 some (v66)
 )
 )
 )
 | .inr (r0) => (
 some r0
 ))
 )
 )

def ke (n : Nat) (a : List Int) (b : List Int) : Option (List Int) :=
 gdO (decide (0 <= Fj ((mx (a.length : Int) (b.length : Int)) + 1))) (
 gdO (decide ((4 : Int) * (Fj ((mx (a.length : Int) (b.length : Int)) + 1)) <= 281474976710656)) (
 gdO (decide (Fj ((mx (a.length : Int) (b.length : Int)) + 1) <= 9223372036854775807)) (
 bdO (aM (α := List Int × Int × Int) (β := List Int) n (fun again16 (o_4, c_5, x_6) => (
 cdO (decide (x_6 < ((List.replicate (Fj ((mx (a.length : Int) (b.length : Int)) + 1)).toNat ((0 : Int) : Int)).length : Int))) (
 bdO (gw n a x_6) fun v18 => (
 bdO (gw n b x_6) fun v20 => (
 cdO (decide ((aa .u32 ((aa .u32 (v18 + v20)) + c_5)) >= 1000000000)) (
 gdO (inR x_6 o_4.length) (
 again16 (o_4.set x_6.toNat (aa .u32 ((aa .u32 ((aa .u32 (v18 + v20)) + c_5)) - 1000000000)), 1, Fj (x_6 + 1))
 )
 ) (
 gdO (inR x_6 o_4.length) (
 again16 (o_4.set x_6.toNat (aa .u32 ((aa .u32 (v18 + v20)) + c_5)), 0, Fj (x_6 + 1))
 )
 )
 )
 )
 ) (
 some (o_4)
 )
 )) (List.replicate (Fj ((mx (a.length : Int) (b.length : Int)) + 1)).toNat ((0 : Int) : Int), 0, 0)) fun o_15 => (
 bdO (dY n o_15) fun v28 => (
 some (v28)
 )
 )
 )
 )
 )

def ij (n : Nat) (a : List Int) (b : List Int) : Option (List Int) :=
 gdO (decide (0 <= (a.length : Int))) (
 gdO (decide ((4 : Int) * (a.length : Int) <= 281474976710656)) (
 gdO (decide ((a.length : Int) <= 9223372036854775807)) (
 bdO (aM (α := List Int × Int × Int) (β := List Int) n (fun again15 (o_4, b_5, x_6) => (
 cdO (decide (x_6 < ((List.replicate (a.length : Int).toNat ((0 : Int) : Int)).length : Int))) (
 bdO (gw n b x_6) fun v17 => (
 gdO (inR x_6 a.length) (
 cdO (decide ((gt a x_6) < (aa .u32 (v17 + b_5)))) (
 gdO (inR x_6 o_4.length) (
 again15 (o_4.set x_6.toNat (aa .u32 ((aa .u32 ((gt a x_6) + 1000000000)) - (aa .u32 (v17 + b_5)))), 1, Fj (x_6 + 1))
 )
 ) (
 gdO (inR x_6 o_4.length) (
 again15 (o_4.set x_6.toNat (aa .u32 ((gt a x_6) - (aa .u32 (v17 + b_5)))), 0, Fj (x_6 + 1))
 )
 )
 )
 )
 ) (
 some (o_4)
 )
 )) (List.replicate (a.length : Int).toNat ((0 : Int) : Int), 0, 0)) fun o_14 => (
 bdO (dY n o_14) fun v26 => (
 some (v26)
 )
 )
 )
 )
 )

def dC (n : Nat) (x' : ah) (y : ah) : Option (ah × ah × Int) :=
 bdO (bJ n x') fun v1 => (
 bdO (bJ n y) fun v3 => (
 cdO (((v3.length : Int) : Int) == 0) (
 some ((ah.mk false [], ah.mk false [], 14))
 ) (
 bdO (gV n v1 v3) fun v6 => (
 bdO (cx n v6.2) fun v8 => (
 cdO (decide ((v8.length : Int) > 0)) (
 cdO (x'.Negative != y.Negative) (
 bdO (ke n v6.1 [(1 : Int)]) fun v12 => (
 bdO (ij n v3 v8) fun v14 => (
 bdO (bV n true v12) fun v16 => (
 bdO (bV n y.Negative v14) fun v18 => (
 some ((v16, v18, 0))
 )
 )
 )
 )
 ) (
 bdO (bV n false v6.1) fun v20 => (
 bdO (bV n y.Negative v8) fun v22 => (
 some ((v20, v22, 0))
 )
 )
 )
 ) (
 bdO (bV n (x'.Negative != y.Negative) v6.1) fun v24 => (
 bdO (bV n y.Negative v8) fun v26 => (
 some ((v24, v26, 0))
 )
 )
 )
 )
 )
 )
 )
 )

def eE (n : Nat) (num : ah) (den : ah) : Option (ai) :=
 bdO (dM n den) fun v1 => (
 cdO (decide (v1 < 0)) (
 bdO (eG n num) fun v4 => (
 bdO (eG n den) fun v6 => (
 bdO (iT n v4 v6) fun v8 => (
 bdO (dC n v4 v8) fun v10 => (
 bdO (dC n v6 v8) fun v12 => (
 some (ai.mk v10.1 v12.1)
 )
 )
 )
 )
 )
 ) (
 bdO (iT n num den) fun v14 => (
 bdO (dC n num v14) fun v16 => (
 bdO (dC n den v14) fun v18 => (
 some (ai.mk v16.1 v18.1)
 )
 )
 )
 )
 )

def lO (n : Nat) (num : ah) (den : ah) : Option (ai × Int) :=
 bdO (fg n num) fun v1 => (
 bdO (fg n den) fun v3 => (
 bdO (dM n v3) fun v5 => (
 cdO ((v5 : Int) == 0) (
 some ((ai.mk (ah.mk false []) (ah.mk false []), 14))
 ) (
 bdO (eE n v1 v3) fun v8 => (
 some ((v8, 0))
 )
 )
 )
 )
 )

def dS (n : Nat) (n' : Int) (d : Int) : Option (ai × Int) :=
 bdO (fL n n') fun v1 => (
 bdO (fL n d) fun v3 => (
 bdO (lO n v1 v3) fun v5 => (
 some ((v5.1, v5.2))
 )
 )
 )

def mf (n : Nat) (g : al) (level : Int) (e : A2 Int) : Option (ak) :=
 gdO (inR e.e0 g.Z.length) (
 gdO (inR e.e1 g.Z.length) (
 bdO (dS n (Fj (level - (Fj (2 * (gt g.Z e.e0))))) (Fj (2 * (Fj ((gt g.Z e.e1) - (gt g.Z e.e0)))))) fun v3 => (
 some (ak.mk e.e0 e.e1 v3.1)
 )
 )
 )

def fF (n : Nat) (start : A2 Int) (closed : Bool) (p : List (A2 Int × Bool)) (p' : Int) (p'' : Int) (AU : Int) (wQ : Int) (iI : Int) (lJ : List Int) (j5 : Int) (fG : List (A2 Int × A2 Int)) (fl : List ag) : Option (List (A2 Int × Bool) × List ag) :=
 bdO (aM (α := List (A2 Int × Bool) × List ak × Int × Int) (β := List (A2 Int × Bool) × List ak) n (fun again39 (p_27, c_28, a_29, a_30) => (
 bdO (mf n (al.mk p' p'' AU wQ iI lJ) j5 (A2.mk a_29 a_30)) fun v40 => (
 gdO (decide ((c_28.length + 1) * 80 <= 140737488355328)) (
 gdO (decide (c_28.length + 1 <= 4611686018427387904)) (
 cdO (!(ql fG (A2.mk a_29 a_30))) (
 some ((ky p_27 (A2.mk a_29 a_30) true, c_28 ++ [v40]))
 ) (
 cdO (getM false (ky p_27 (A2.mk a_29 a_30) true) (getM (A2.mk 0 0 : A2 Int) fG (A2.mk a_29 a_30))) (
 some ((ky p_27 (A2.mk a_29 a_30) true, c_28 ++ [v40]))
 ) (
 again39 (ky p_27 (A2.mk a_29 a_30) true, c_28 ++ [v40], (getM (A2.mk 0 0 : A2 Int) fG (A2.mk a_29 a_30)).e0, (getM (A2.mk 0 0 : A2 Int) fG (A2.mk a_29 a_30)).e1)
 )
 )
 )
 )
 )
 )) (p, [], start.e0, start.e1)) fun o46 => (
 match o46 with
 | (p_37, c_38) => (
 gdO (decide ((fl.length + 1) * 32 <= 140737488355328)) (
 gdO (decide (fl.length + 1 <= 4611686018427387904)) (
 some ((p_37, fl ++ [ag.mk closed c_38]))
 )
 )
 ))

def gg (n : Nat) (c : ag) : Option (A2 Int) :=
 gdO (inR 0 c.Points.length) (
 some (A2.mk (gt c.Points 0).A (gt c.Points 0).B)
 )

def mX (n : Nat) (a : ag) (b : ag) : Option (Int) :=
 bdO (gg n a) fun v1 => (
 bdO (gg n b) fun v3 => (
 bdO (gK n v1 v3) fun v5 => (
 some (v5)
 )
 )
 )

def bl (n : Nat) (data : List ag) (a : Int) (b : Int) : Option (List ag) :=
 bdO (aM (α := List ag × Int) (β := List ag) n (fun again72 (d_49, i_50) => (
 cdO (decide (i_50 < b)) (
 bdO (aM (α := List ag × Int) (β := List ag) n (fun again83 (d_74, j_75) => (
 cdO (decide (j_75 > a)) (
 gdO (inR j_75 d_74.length) (
 gdO (inR (Fj (j_75 - 1)) d_74.length) (
 bdO (mX n (gt d_74 j_75) (gt d_74 (Fj (j_75 - 1)))) fun v87 => (
 cdO (decide (v87 < 0)) (
 again83 ((d_74.set j_75.toNat (gt d_74 (Fj (j_75 - 1)))).set (Fj (j_75 - 1)).toNat (gt d_74 j_75), Fj (j_75 - 1))
 ) (
 some (d_74)
 )
 )
 )
 )
 ) (
 some (d_74)
 )
 )) (d_49, i_50)) fun d_82 => (
 again72 (d_82, Fj (i_50 + 1))
 )
 ) (
 some (d_49)
 )
 )) (data, Fj (a + 1))) fun d_71 => (
 some (d_71)
 )

def bu (n : Nat) (data : List ag) (a : Int) (b : Int) (limit : Int) : Option (List ag) :=
 bdO (aM (α := Int × Int × Int × Bool × Bool) (β := List ag) n (fun again31 (a_21, b_22, l_23, w_24, w_25) => (
 gdO ((decide ((Fj (b_22 - a_21)) <= 12))) (
 bdO (bl n data a_21 b_22) fun v33 => (
 some (v33)
 )
 )
 )) (a, b, limit, true, true)) fun r0 => (
 some r0
 )

def aT (n : Nat) (x' : List ag) : Option (List ag) :=
 bdO (kH n (aa .u64 (x'.length : Int))) fun v6 => (
 bdO (bu n x' 0 (x'.length : Int) v6) fun v8 => (
 some (v8)
 )
 )

noncomputable def im (n : Nat) (g : al) (level : Int) : Option (List ag) :=
 bdO (bh n g g.X0 g.Y0 g.Step g.Width g.Height g.Z level ([] : List (A2 Int × A2 Int)) ([] : List (A2 Int × Bool))) fun v1 => (
 yY (ε := A2 Int × A2 Int) (σ := List (A2 Int)) v1.1 (fun s_16 e12 => (
 gdO (decide ((s_16.length + 1) * 16 <= 140737488355328)) (
 gdO (decide (s_16.length + 1 <= 4611686018427387904)) (
 some (s_16 ++ [e12.1])
 )
 )
 )) [] fun s_16 => (
 bdO (aJ n s_16) fun v21 => (
 gdO (decide (v21.length = s_16.length)) (
 bdO (aM (α := List (A2 Int × Bool) × List ag × Int) (β := List (A2 Int × Bool) × List ag) n (fun again56 (d_45, o_46, x_47) => (
 cdO (decide (x_47 < (s_16.length : Int))) (
 gdO (inR x_47 v21.length) (
 cdO (!(getM false v1.2 (gt v21 x_47))) (
 bdO (fF n (gt v21 x_47) false d_45 g.X0 g.Y0 g.Step g.Width g.Height g.Z level v1.1 o_46) fun v61 => (
 again56 (v61.1, v61.2, Fj (x_47 + 1))
 )
 ) (
 again56 (d_45, o_46, Fj (x_47 + 1))
 )
 )
 ) (
 some ((d_45, o_46))
 )
 )) (([] : List (A2 Int × Bool)), [], 0)) fun o63 => (
 match o63 with
 | (d_54, o_55) => (
 bdO (aM (α := List (A2 Int × Bool) × List ag × Int) (β := List ag) n (fun again76 (d_66, o_67, x_68) => (
 cdO (decide (x_68 < (v21.length : Int))) (
 gdO (inR x_68 v21.length) (
 cdO (!(getM false d_66 (gt v21 x_68))) (
 bdO (fF n (gt v21 x_68) true d_66 g.X0 g.Y0 g.Step g.Width g.Height g.Z level v1.1 o_67) fun v81 => (
 again76 (v81.1, v81.2, Fj (x_68 + 1))
 )
 ) (
 again76 (d_66, o_67, Fj (x_68 + 1))
 )
 )
 ) (
 some (o_67)
 )
 )) (d_54, o_55, 0)) fun o_75 => (
 bdO (aT n o_75) fun v86 => (
 gdO (decide (v86.length = o_75.length)) (
 some (v86)
 )
 )
 )
 ))
 )
 )
 )
 )

noncomputable def kr (n : Nat) (g : al) (level : Int) : Option (List ag × Int) :=
 bdO (dD n g level) fun v1 => (
 cdO ((v1 : Int) != 0) (
 some (([], v1))
 ) (
 bdO (im n g level) fun v4 => (
 some ((v4, 0))
 )
 )
 )

def bF (n : Nat) (n' : Int) : Option (ai) :=
 bdO (fL n n') fun v1 => (
 bdO (fL n 1) fun v3 => (
 some (ai.mk v1 v3)
 )
 )

def kG (n : Nat) (x' : Int) : Option (Bool) :=
 some ((x' : Int) != x')

def jm (n : Nat) (x' : Int) (y : Int) : Option (Int) :=
 bdO (kG n x') fun v1 => (
 bdO (kG n y) fun v3 => (
 cdO v1 (
 cdO v3 (
 some (0)
 ) (
 some ((-1))
 )
 ) (
 cdO v3 (
 some (1)
 ) (
 cdO (decide (x' < y)) (
 some ((-1))
 ) (
 cdO (decide (x' > y)) (
 some (1)
 ) (
 some (0)
 )
 )
 )
 )
 )
 )

def gL (n : Nat) (x' : ah) (y : ah) : Option (Int) :=
 bdO (dM n x') fun v1 => (
 bdO (dM n y) fun v3 => (
 cdO ((v1 : Int) != v3) (
 bdO (jm n v1 v3) fun v6 => (
 some (v6)
 )
 ) (
 bdO (bJ n x') fun v8 => (
 bdO (bJ n y) fun v10 => (
 bdO (fP n v8 v10) fun v12 => (
 cdO x'.Negative (
 some (Fj (0 - v12))
 ) (
 some (v12)
 )
 )
 )
 )
 )
 )
 )

def dW (n : Nat) (x' : ai) : Option (Bool) :=
 bdO (eI n x'.Num) fun v1 => (
 cdO (!v1) (
 some (false)
 ) (
 bdO (eI n x'.Den) fun v4 => (
 cdO (!v4) (
 some (false)
 ) (
 bdO (dM n x'.Den) fun v7 => (
 cdO (decide (v7 <= 0)) (
 some (false)
 ) (
 bdO (iT n x'.Num x'.Den) fun v10 => (
 bdO (fL n 1) fun v12 => (
 bdO (gL n v10 v12) fun v14 => (
 some ((v14 : Int) == 0)
 )
 )
 )
 )
 )
 )
 )
 )
 )

def jf (n : Nat) (x' : ai) : Option (ai) :=
 bdO (eG n x'.Num) fun v1 => (
 bdO (eG n v1) fun v3 => (
 bdO (eG n x'.Den) fun v5 => (
 bdO (eG n v5) fun v7 => (
 some (ai.mk v3 v7)
 )
 )
 )
 )

def cg (n : Nat) (x' : ai) : Option (ai) :=
 bdO (dW n x') fun v1 => (
 cdO v1 (
 bdO (jf n x') fun v4 => (
 some (v4)
 )
 ) (
 bdO (bF n 0) fun v6 => (
 some (v6)
 )
 )
 )

def a7 (n : Nat) (x' : ai) : Option (Int) :=
 bdO (cg n x') fun v1 => (
 bdO (dM n v1.Num) fun v3 => (
 some (v3)
 )
 )

def lK (n : Nat) (x' : ai) : Option (ai) :=
 bdO (cg n x') fun v1 => (
 bdO (eG n v1.Num) fun v3 => (
 some (ai.mk v3 v1.Den)
 )
 )

def dE (n : Nat) (x' : ah) (y : ah) : Option (ah) :=
 bdO (bJ n x') fun v1 => (
 bdO (bJ n y) fun v3 => (
 bdO (jD n v1 v3) fun v5 => (
 bdO (bV n (x'.Negative != y.Negative) v5) fun v7 => (
 some (v7)
 )
 )
 )
 )

def mI (n : Nat) (negative : Bool) (a : List Int) (other : Bool) (b : List Int) : Option (ah) :=
 cdO (negative == other) (
 bdO (ke n a b) fun v2 => (
 bdO (bV n negative v2) fun v4 => (
 some (v4)
 )
 )
 ) (
 bdO (fP n a b) fun v6 => (
 cdO (decide (v6 >= 0)) (
 bdO (ij n a b) fun v9 => (
 bdO (bV n negative v9) fun v11 => (
 some (v11)
 )
 )
 ) (
 bdO (ij n b a) fun v13 => (
 bdO (bV n other v13) fun v15 => (
 some (v15)
 )
 )
 )
 )
 )

def mB (n : Nat) (x' : ah) (y : ah) : Option (ah) :=
 bdO (bJ n x') fun v1 => (
 bdO (bJ n y) fun v3 => (
 bdO (mI n x'.Negative v1 y.Negative v3) fun v5 => (
 some (v5)
 )
 )
 )

def b7 (n : Nat) (x' : ai) (y : ai) : Option (ai) :=
 bdO (cg n x') fun v1 => (
 bdO (cg n y) fun v3 => (
 bdO (dE n v1.Num v3.Den) fun v5 => (
 bdO (dE n v3.Num v1.Den) fun v7 => (
 bdO (mB n v5 v7) fun v9 => (
 bdO (dE n v1.Den v3.Den) fun v11 => (
 bdO (eE n v9 v11) fun v13 => (
 some (v13)
 )
 )
 )
 )
 )
 )
 )

def c6 (n : Nat) (x' : ai) (y : ai) : Option (ai) :=
 bdO (lK n y) fun v1 => (
 bdO (b7 n x' v1) fun v3 => (
 some (v3)
 )
 )

def eZ (n : Nat) (p : ai) (p' : ai) (p'' : ai) (tip : ai) : Option (ai) :=
 bdO (bF n 1) fun v1 => (
 bdO (c6 n v1 tip) fun v3 => (
 some (v3)
 )
 )

def cO (n : Nat) (x' : ai) (y : ai) : Option (ai) :=
 bdO (cg n x') fun v1 => (
 bdO (cg n y) fun v3 => (
 bdO (dE n v1.Num v3.Num) fun v5 => (
 bdO (dE n v1.Den v3.Den) fun v7 => (
 bdO (eE n v5 v7) fun v9 => (
 some (v9)
 )
 )
 )
 )
 )

def gN (n : Nat) (x' : ai) (y : ai) : Option (ai × Int) :=
 bdO (cg n x') fun v1 => (
 bdO (cg n y) fun v3 => (
 bdO (dM n v3.Num) fun v5 => (
 cdO ((v5 : Int) == 0) (
 some ((ai.mk (ah.mk false []) (ah.mk false []), 14))
 ) (
 bdO (dE n v1.Num v3.Den) fun v8 => (
 bdO (dE n v1.Den v3.Num) fun v10 => (
 bdO (eE n v8 v10) fun v12 => (
 some ((v12, 0))
 )
 )
 )
 )
 )
 )
 )

def gh (n : Nat) (a : ai) (b : ai) (c : ai) : Option (ai) :=
 bdO (cO n a a) fun v1 => (
 bdO (c6 n a b) fun v3 => (
 bdO (c6 n a c) fun v5 => (
 bdO (cO n v3 v5) fun v7 => (
 bdO (gN n v1 v7) fun v9 => (
 some (v9.1)
 )
 )
 )
 )
 )

def ia (n : Nat) (t : A3 Int) (p : Int) (p' : Int) (p'' : Int) (AU : Int) (wQ : Int) (iI : List Int) (lJ : Int) (j5 : Bool) (fG : List Int) (fl : Bool) (hO : List Int) : Option (Bool × List Int × Bool × List Int) :=
 bdO (α := Bool × List Int × Bool × List Int × Int) (
 gdO (inR t.e0 iI.length) (
 bdO (dS n (Fj ((Fj (2 * (gt iI t.e0))) - lJ)) 2) fun v285 => (
 bdO (a7 n v285.1) fun v287 => (
 cdO (decide (v287 > 0)) (
 some ((v285.1.Num.Negative, v285.1.Num.Groups, v285.1.Den.Negative, v285.1.Den.Groups, 1))
 ) (
 some ((v285.1.Num.Negative, v285.1.Num.Groups, v285.1.Den.Negative, v285.1.Den.Groups, 0))
 )
 )
 )
 )
 ) fun o290 => (
 match o290 with
 | (h_279, h_280, h_281, h_282, u_283) => (
 bdO (α := Bool × List Int × Bool × List Int × Int) (
 gdO (inR t.e1 iI.length) (
 bdO (dS n (Fj ((Fj (2 * (gt iI t.e1))) - lJ)) 2) fun v299 => (
 bdO (a7 n v299.1) fun v301 => (
 cdO (decide (v301 > 0)) (
 some ((v299.1.Num.Negative, v299.1.Num.Groups, v299.1.Den.Negative, v299.1.Den.Groups, Fj (u_283 + 1)))
 ) (
 some ((v299.1.Num.Negative, v299.1.Num.Groups, v299.1.Den.Negative, v299.1.Den.Groups, u_283))
 )
 )
 )
 )
 ) fun o304 => (
 match o304 with
 | (h_293, h_294, h_295, h_296, u_297) => (
 bdO (α := Bool × List Int × Bool × List Int × Int) (
 gdO (inR t.e2 iI.length) (
 bdO (dS n (Fj ((Fj (2 * (gt iI t.e2))) - lJ)) 2) fun v313 => (
 bdO (a7 n v313.1) fun v315 => (
 cdO (decide (v315 > 0)) (
 some ((v313.1.Num.Negative, v313.1.Num.Groups, v313.1.Den.Negative, v313.1.Den.Groups, Fj (u_297 + 1)))
 ) (
 some ((v313.1.Num.Negative, v313.1.Num.Groups, v313.1.Den.Negative, v313.1.Den.Groups, u_297))
 )
 )
 )
 )
 ) fun o318 => (
 match o318 with
 | (h_307, h_308, h_309, h_310, u_311) => (
 cdO ((u_311 : Int) == 0) (
 some ((j5, fG, fl, hO))
 ) (
 cdO ((u_311 : Int) == 3) (
 bdO (bF n 0) fun v346 => (
 bdO (eZ n (ai.mk (ah.mk h_279 h_280) (ah.mk h_281 h_282)) (ai.mk (ah.mk h_293 h_294) (ah.mk h_295 h_296)) (ai.mk (ah.mk h_307 h_308) (ah.mk h_309 h_310)) v346) fun v348 => (
 bdO (b7 n (ai.mk (ah.mk j5 fG) (ah.mk fl hO)) v348) fun v350 => (
 some ((v350.Num.Negative, v350.Num.Groups, v350.Den.Negative, v350.Den.Groups))
 )
 )
 )
 ) (
 bdO (aM (α := Bool × List Int × Bool × List Int × Bool × List Int × Bool × List Int × Bool × List Int × Bool × List Int) (β := Bool × List Int × Bool × List Int × Bool × List Int × Bool × List Int × Bool × List Int × Bool × List Int) n (fun again443 (h_406, h_407, h_408, h_409, h_410, h_411, h_412, h_413, h_414, h_415, h_416, h_417) => (
 bdO (α := Sum (Unit) (Unit)) (
 bdO (a7 n (ai.mk (ah.mk h_406 h_407) (ah.mk h_408 h_409))) fun v446 => (
 cdO ((decide (v446 > 0)) != ((u_311 : Int) == 1)) (
 some (Sum.inr (()))
 ) (
 bdO (a7 n (ai.mk (ah.mk h_410 h_411) (ah.mk h_412 h_413))) fun v449 => (
 bdO (a7 n (ai.mk (ah.mk h_414 h_415) (ah.mk h_416 h_417))) fun v451 => (
 cdO ((decide (v449 > 0)) != (decide (v451 > 0))) (
 some (Sum.inr (()))
 ) (
 some (Sum.inl ())
 )
 )
 )
 )
 )
 ) fun o454 => (
 match o454 with
 | .inl _ => (
 some ((h_406, h_407, h_408, h_409, h_410, h_411, h_412, h_413, h_414, h_415, h_416, h_417))
 )
 | .inr (_) => (
 again443 (h_410, h_411, h_412, h_413, h_414, h_415, h_416, h_417, h_406, h_407, h_408, h_409)
 ))
 )) (h_279, h_280, h_281, h_282, h_293, h_294, h_295, h_296, h_307, h_308, h_309, h_310)) fun o457 => (
 match o457 with
 | (h_431, h_432, h_433, h_434, h_435, h_436, h_437, h_438, h_439, h_440, h_441, h_442) => (
 bdO (gh n (ai.mk (ah.mk h_431 h_432) (ah.mk h_433 h_434)) (ai.mk (ah.mk h_435 h_436) (ah.mk h_437 h_438)) (ai.mk (ah.mk h_439 h_440) (ah.mk h_441 h_442))) fun v460 => (
 cdO ((u_311 : Int) == 2) (
 bdO (eZ n (ai.mk (ah.mk h_431 h_432) (ah.mk h_433 h_434)) (ai.mk (ah.mk h_435 h_436) (ah.mk h_437 h_438)) (ai.mk (ah.mk h_439 h_440) (ah.mk h_441 h_442)) v460) fun v463 => (
 bdO (b7 n (ai.mk (ah.mk j5 fG) (ah.mk fl hO)) v463) fun v465 => (
 some ((v465.Num.Negative, v465.Num.Groups, v465.Den.Negative, v465.Den.Groups))
 )
 )
 ) (
 bdO (b7 n (ai.mk (ah.mk j5 fG) (ah.mk fl hO)) v460) fun v467 => (
 some ((v467.Num.Negative, v467.Num.Groups, v467.Den.Negative, v467.Den.Groups))
 )
 )
 )
 ))
 )
 )
 ))
 ))
 ))

def bY (n : Nat) (g : al) (c : Int) (c' : Int) (c'' : Int) (wA : Int) (rV : Int) (oM : List Int) (mv : Int) (qy : Bool) (pz : List Int) (rY : Bool) (qM : List Int) : Option (Bool × List Int × Bool × List Int) :=
 bdO (aM (α := Bool × List Int × Bool × List Int × Int) (β := Bool × List Int × Bool × List Int) n (fun again318 (c_212, c_213, c_214, c_215, x_216) => (
 cdO (decide (x_216 < (Fj (g.Height - 1)))) (
 bdO (aM (α := Bool × List Int × Bool × List Int × Int) (β := Bool × List Int × Bool × List Int) n (fun again371 (c_321, c_322, c_323, c_324, x_325) => (
 cdO (decide (x_325 < (Fj (g.Width - 1)))) (
 bdO (some (Fj ((Fj (x_216 * g.Width)) + x_325))) fun w374 => (
 bdO (some [A3.mk w374 (Fj (w374 + 1)) (Fj ((Fj (w374 + g.Width)) + 1)), A3.mk w374 (Fj ((Fj (w374 + g.Width)) + 1)) (Fj (w374 + g.Width))]) fun w376 => (
 bdO (aM (α := Bool × List Int × Bool × List Int × Int) (β := Bool × List Int × Bool × List Int) n (fun again398 (c_378, c_379, c_380, c_381, x_382) => (
 cdO (decide (x_382 < 2)) (
 gdO (inR x_382 w376.length) (
 gdO (inR (gt w376 x_382).e0 g.Z.length) (
 cdO (((gt g.Z (gt w376 x_382).e0) : Int) != (-2147483648)) (
 gdO (inR (gt w376 x_382).e1 g.Z.length) (
 cdO (((gt g.Z (gt w376 x_382).e1) : Int) != (-2147483648)) (
 gdO (inR (gt w376 x_382).e2 g.Z.length) (
 cdO (((gt g.Z (gt w376 x_382).e2) : Int) != (-2147483648)) (
 bdO (ia n (gt w376 x_382) c c' c'' wA rV oM mv c_378 c_379 c_380 c_381) fun v408 => (
 again398 (v408.1, v408.2.1, v408.2.2.1, v408.2.2.2, Fj (x_382 + 1))
 )
 ) (
 again398 (c_378, c_379, c_380, c_381, Fj (x_382 + 1))
 )
 )
 ) (
 again398 (c_378, c_379, c_380, c_381, Fj (x_382 + 1))
 )
 )
 ) (
 again398 (c_378, c_379, c_380, c_381, Fj (x_382 + 1))
 )
 )
 )
 ) (
 some ((c_378, c_379, c_380, c_381))
 )
 )) (c_321, c_322, c_323, c_324, 0)) fun o410 => (
 match o410 with
 | (c_394, c_395, c_396, c_397) => (
 again371 (c_394, c_395, c_396, c_397, Fj (x_325 + 1))
 ))
 )
 )
 ) (
 some ((c_321, c_322, c_323, c_324))
 )
 )) (c_212, c_213, c_214, c_215, 0)) fun o413 => (
 match o413 with
 | (c_367, c_368, c_369, c_370) => (
 again318 (c_367, c_368, c_369, c_370, Fj (x_216 + 1))
 ))
 ) (
 some ((c_212, c_213, c_214, c_215))
 )
 )) (qy, pz, rY, qM, 0)) fun o416 => (
 match o416 with
 | (c_314, c_315, c_316, c_317) => (
 some ((c_314, c_315, c_316, c_317))
 ))

def bj (n : Nat) (g : al) (level : Int) : Option (ai) :=
 bdO (bF n 0) fun v1 => (
 bdO (bY n g g.X0 g.Y0 g.Step g.Width g.Height g.Z level v1.Num.Negative v1.Num.Groups v1.Den.Negative v1.Den.Groups) fun v3 => (
 bdO (dS n (Fj (g.Step * g.Step)) 2) fun v5 => (
 bdO (cO n (ai.mk (ah.mk v3.1 v3.2.1) (ah.mk v3.2.2.1 v3.2.2.2)) v5.1) fun v7 => (
 some (v7)
 )
 )
 )
 )

def ft (n : Nat) (g : al) (level : Int) : Option (ai × Int) :=
 bdO (dD n g level) fun v1 => (
 cdO ((v1 : Int) != 0) (
 some ((ai.mk (ah.mk false []) (ah.mk false []), v1))
 ) (
 bdO (bj n g level) fun v4 => (
 some ((v4, 0))
 )
 )
 )

def jU (n : Nat) (s : List Int) (v : Int) : Option (Int) :=
 bdO (aM (α := Int) (β := Sum (Unit) (Int)) n (fun again5 x_1 => (
 cdO (decide (x_1 < (s.length : Int))) (
 gdO (inR x_1 s.length) (
 cdO ((v : Int) == (gt s x_1)) (
 some (Sum.inr (x_1))
 ) (
 again5 (Fj (x_1 + 1))
 )
 )
 ) (
 some (Sum.inl ())
 )
 )) 0) fun o9 => (
 match o9 with
 | .inl _ => (
 some ((-1))
 )
 | .inr (r0) => (
 some r0
 ))

def dy (n : Nat) (s : List Int) (v : Int) : Option (Bool) :=
 bdO (jU n s v) fun v1 => (
 some (decide (v1 >= 0))
 )

def kU (n : Nat) (t : A3 Int) (p : Bool) (p' : Int) (p'' : Int) : Option (Bool) :=
 cdO p (
 some (true)
 ) (
 bdO (dy n [t.e0, t.e1, t.e2] p') fun v9 => (
 cdO v9 (
 bdO (dy n [t.e0, t.e1, t.e2] p'') fun v12 => (
 some (v12)
 )
 ) (
 some (false)
 )
 )
 )

def dw (n : Nat) (g : al) (c : Bool) (c' : Int) (c'' : Int) : Option (Bool) :=
 bdO (aM (α := Bool × Int) (β := Bool) n (fun again249 (c_167, x_168) => (
 cdO (decide (x_168 < (Fj (g.Height - 1)))) (
 bdO (aM (α := Bool × Int) (β := Bool) n (fun again290 (c_252, x_253) => (
 cdO (decide (x_253 < (Fj (g.Width - 1)))) (
 bdO (some (Fj ((Fj (x_168 * g.Width)) + x_253))) fun w293 => (
 bdO (some [A3.mk w293 (Fj (w293 + 1)) (Fj ((Fj (w293 + g.Width)) + 1)), A3.mk w293 (Fj ((Fj (w293 + g.Width)) + 1)) (Fj (w293 + g.Width))]) fun w295 => (
 bdO (aM (α := Bool × Int) (β := Bool) n (fun again311 (c_297, x_298) => (
 cdO (decide (x_298 < 2)) (
 gdO (inR x_298 w295.length) (
 gdO (inR (gt w295 x_298).e0 g.Z.length) (
 cdO (((gt g.Z (gt w295 x_298).e0) : Int) != (-2147483648)) (
 gdO (inR (gt w295 x_298).e1 g.Z.length) (
 cdO (((gt g.Z (gt w295 x_298).e1) : Int) != (-2147483648)) (
 gdO (inR (gt w295 x_298).e2 g.Z.length) (
 cdO (((gt g.Z (gt w295 x_298).e2) : Int) != (-2147483648)) (
 bdO (kU n (gt w295 x_298) c_297 c' c'') fun v321 => (
 again311 (v321, Fj (x_298 + 1))
 )
 ) (
 again311 (c_297, Fj (x_298 + 1))
 )
 )
 ) (
 again311 (c_297, Fj (x_298 + 1))
 )
 )
 ) (
 again311 (c_297, Fj (x_298 + 1))
 )
 )
 )
 ) (
 some (c_297)
 )
 )) (c_252, 0)) fun c_310 => (
 again290 (c_310, Fj (x_253 + 1))
 )
 )
 )
 ) (
 some (c_252)
 )
 )) (c_167, 0)) fun c_289 => (
 again249 (c_289, Fj (x_168 + 1))
 )
 ) (
 some (c_167)
 )
 )) (c, 0)) fun c_248 => (
 some (c_248)
 )

def nQ (n : Nat) (g : al) (a : Int) (b : Int) : Option (Bool) :=
 cdO (decide (a < 0)) (
 some (false)
 ) (
 cdO (decide (a >= b)) (
 some (false)
 ) (
 cdO (decide (b >= (g.Z.length : Int))) (
 some (false)
 ) (
 bdO (dw n g false a b) fun v4 => (
 some (v4)
 )
 )
 )
 )

def j7 (n : Nat) (x' : ai) (y : ai) : Option (Int) :=
 bdO (cg n x') fun v1 => (
 bdO (cg n y) fun v3 => (
 bdO (dE n v1.Num v3.Den) fun v5 => (
 bdO (dE n v3.Num v1.Den) fun v7 => (
 bdO (gL n v5 v7) fun v9 => (
 some (v9)
 )
 )
 )
 )
 )

def gP (n : Nat) (a : Int) (b : Int) (p : Int) (p' : Int) (p'' : Bool) (AU : List Int) (wQ : Bool) (iI : List Int) : Option (ai) :=
 bdO (bF n a) fun v1 => (
 bdO (bF n (Fj (b - a))) fun v3 => (
 bdO (cO n (ai.mk (ah.mk p'' AU) (ah.mk wQ iI)) v3) fun v5 => (
 bdO (b7 n v1 v5) fun v7 => (
 some (v7)
 )
 )
 )
 )

def oR (n : Nat) (g : al) (c : ak) : Option (aI × Int) :=
 bdO (nQ n g c.A c.B) fun v1 => (
 cdO (!v1) (
 some ((aI.mk (ai.mk (ah.mk false []) (ah.mk false [])) (ai.mk (ah.mk false []) (ah.mk false [])), 6))
 ) (
 bdO (dW n c.At) fun v5 => (
 cdO (!v5) (
 some ((aI.mk (ai.mk (ah.mk false []) (ah.mk false [])) (ai.mk (ah.mk false []) (ah.mk false [])), 1))
 ) (
 bdO (α := Bool) (
 bdO (a7 n c.At) fun v12 => (
 cdO (decide (v12 < 0)) (
 some (true)
 ) (
 bdO (bF n 1) fun v15 => (
 bdO (j7 n c.At v15) fun v17 => (
 some (decide (v17 > 0))
 )
 )
 )
 )
 ) fun x_11 => (
 cdO x_11 (
 some ((aI.mk (ai.mk (ah.mk false []) (ah.mk false [])) (ai.mk (ah.mk false []) (ah.mk false [])), 2))
 ) (
 gdO (!decide (g.Width = 0)) (
 bdO (gP n (Fj (g.X0 + (Fj ((c.A.tmod g.Width) * g.Step)))) (Fj (g.X0 + (Fj ((c.B.tmod g.Width) * g.Step)))) c.A c.B c.At.Num.Negative c.At.Num.Groups c.At.Den.Negative c.At.Den.Groups) fun v25 => (
 bdO (gP n (Fj (g.Y0 + (Fj ((Fj (c.A.tdiv g.Width)) * g.Step)))) (Fj (g.Y0 + (Fj ((Fj (c.B.tdiv g.Width)) * g.Step)))) c.A c.B c.At.Num.Negative c.At.Num.Groups c.At.Den.Negative c.At.Den.Groups) fun v27 => (
 some ((aI.mk v25 v27, 0))
 )
 )
 )
 )
 )
 )
 )
 )
 )

def nF (n : Nat) (g : al) (c : ag) : Option (List aI × Int) :=
 bdO (aM (α := List aI × Int) (β := Sum (List aI) (List aI × Int)) n (fun again12 (o_1, x_2) => (
 cdO (decide (x_2 < (c.Points.length : Int))) (
 gdO (inR x_2 c.Points.length) (
 bdO (oR n g (gt c.Points x_2)) fun v16 => (
 cdO ((v16.2 : Int) != 0) (
 some (Sum.inr (([], v16.2)))
 ) (
 gdO (decide ((o_1.length + 1) * 128 <= 140737488355328)) (
 gdO (decide (o_1.length + 1 <= 4611686018427387904)) (
 again12 (o_1 ++ [v16.1], Fj (x_2 + 1))
 )
 )
 )
 )
 )
 ) (
 some (Sum.inl o_1)
 )
 )) ([], 0)) fun o21 => (
 match o21 with
 | .inl o_11 => (
 some ((o_11, 0))
 )
 | .inr (r0) => (
 some r0
 ))

def mU (n : Nat) (polygon : List aI) (o : aI) : Option (Int × Bool) :=
 bdO (aM (α := Int × Int) (β := Sum (Int) (Int × Bool)) n (fun again52 (n_1, x_2) => (
 cdO (decide (x_2 < (polygon.length : Int))) (
 gdO (inR x_2 polygon.length) (
 gdO (!decide ((polygon.length : Int) = 0)) (
 gdO (inR ((Fj (x_2 + 1)).tmod (polygon.length : Int)) polygon.length) (
 bdO (c6 n (gt polygon x_2).X o.X) fun v58 => (
 bdO (c6 n (gt polygon x_2).Y o.Y) fun v60 => (
 bdO (c6 n (gt polygon ((Fj (x_2 + 1)).tmod (polygon.length : Int))).X o.X) fun v62 => (
 bdO (c6 n (gt polygon ((Fj (x_2 + 1)).tmod (polygon.length : Int))).Y o.Y) fun v64 => (
 bdO (cO n v58 v64) fun v66 => (
 bdO (cO n v60 v62) fun v68 => (
 bdO (c6 n v66 v68) fun v70 => (
 bdO (a7 n v70) fun v72 => (
 bdO (α := Sum (Unit) (Int × Bool)) (
 cdO ((v72 : Int) == 0) (
 bdO (cO n v58 v62) fun v75 => (
 bdO (cO n v60 v64) fun v77 => (
 bdO (b7 n v75 v77) fun v79 => (
 bdO (a7 n v79) fun v81 => (
 cdO (decide (v81 <= 0)) (
 some (Sum.inr ((0, true)))
 ) (
 some (Sum.inl ())
 )
 )
 )
 )
 )
 ) (
 some (Sum.inl ())
 )
 ) fun o84 => (
 match o84 with
 | .inl _ => (
 bdO (a7 n v60) fun v87 => (
 bdO (a7 n v64) fun v89 => (
 bdO (α := Bool) (
 cdO (decide (v87 <= 0)) (
 cdO (!(decide (v89 <= 0))) (
 some (decide (v72 > 0))
 ) (
 some (false)
 )
 ) (
 some (false)
 )
 ) fun x_91 => (
 cdO x_91 (
 again52 (Fj (n_1 + 1), Fj (x_2 + 1))
 ) (
 cdO (!(decide (v87 <= 0))) (
 cdO (decide (v89 <= 0)) (
 cdO (decide (v72 < 0)) (
 again52 (Fj (n_1 - 1), Fj (x_2 + 1))
 ) (
 again52 (n_1, Fj (x_2 + 1))
 )
 ) (
 again52 (n_1, Fj (x_2 + 1))
 )
 ) (
 again52 (n_1, Fj (x_2 + 1))
 )
 )
 )
 )
 )
 )
 | .inr (r0) => (
 some (Sum.inr (r0))
 ))
 )
 )
 )
 )
 )
 )
 )
 )
 )
 )
 )
 ) (
 some (Sum.inl n_1)
 )
 )) (0, 0)) fun o101 => (
 match o101 with
 | .inl n_51 => (
 some ((n_51, false))
 )
 | .inr (r0) => (
 some r0
 ))

def oN (n : Nat) (g : al) (l : ag) (i : Int) (j : Int) : Option (Int × Int) :=
 bdO (jz n g) fun v1 => (
 cdO ((v1 : Int) != 0) (
 some ((0, v1))
 ) (
 bdO (α := Bool) (
 cdO (decide (i < 0)) (
 some (true)
 ) (
 cdO (decide (i >= g.Width)) (
 some (true)
 ) (
 cdO (decide (j < 0)) (
 some (true)
 ) (
 some (decide (j >= g.Height))
 )
 )
 )
 ) fun x_5 => (
 cdO x_5 (
 some ((0, 2))
 ) (
 cdO (!l.Closed) (
 some ((0, 11))
 ) (
 bdO (nF n g l) fun v16 => (
 cdO ((v16.2 : Int) != 0) (
 some ((0, v16.2))
 ) (
 bdO (bF n (Fj (g.X0 + (Fj (i * g.Step))))) fun v20 => (
 bdO (bF n (Fj (g.Y0 + (Fj (j * g.Step))))) fun v22 => (
 bdO (mU n v16.1 (aI.mk v20 v22)) fun v24 => (
 cdO v24.2 (
 some ((0, 13))
 ) (
 cdO (((v16.1.length : Int) : Int) == 0) (
 some ((0, 13))
 ) (
 some ((v24.1, 0))
 )
 )
 )
 )
 )
 )
 )
 )
 )
 )
 )
 )

def aS (n : Nat) (negative : Bool) (l : List Int) : Option (ah) :=
 bdO (aM (α := Int) (β := Int) n (fun again6 n_1 => (
 cdO (decide (n_1 > 0)) (
 gdO (inR (Fj (n_1 - 1)) l.length) (
 cdO (((gt l (Fj (n_1 - 1))) : Int) == 0) (
 again6 (Fj (n_1 - 1))
 ) (
 some (n_1)
 )
 )
 ) (
 some (n_1)
 )
 )) (l.length : Int)) fun n_5 => (
 cdO negative (
 gdO (inS 0 n_5 l.length) (
 gdO (decide ((0 + ((l.drop (0 : Int).toNat).take (n_5.toNat - (0 : Int).toNat)).length) * 4 <= 140737488355328)) (
 gdO (decide (0 + ((l.drop (0 : Int).toNat).take (n_5.toNat - (0 : Int).toNat)).length <= 4611686018427387904)) (
 some (ah.mk (decide (n_5 > 0)) ((l.drop (0 : Int).toNat).take (n_5.toNat - (0 : Int).toNat)))
 )
 )
 )
 ) (
 gdO (inS 0 n_5 l.length) (
 gdO (decide ((0 + ((l.drop (0 : Int).toNat).take (n_5.toNat - (0 : Int).toNat)).length) * 4 <= 140737488355328)) (
 gdO (decide (0 + ((l.drop (0 : Int).toNat).take (n_5.toNat - (0 : Int).toNat)).length <= 4611686018427387904)) (
 some (ah.mk false ((l.drop (0 : Int).toNat).take (n_5.toNat - (0 : Int).toNat)))
 )
 )
 )
 )
 )

def gj (n : Nat) (n' : Int) : Option (ah) :=
 cdO (decide (n' < 0)) (
 bdO (aM (α := Int × List Int) (β := List Int) n (fun again8 (u_2, l_3) => (
 cdO (decide (u_2 > 0)) (
 gdO (decide ((l_3.length + 1) * 4 <= 140737488355328)) (
 gdO (decide (l_3.length + 1 <= 4611686018427387904)) (
 again8 (aa .u64 (u_2.tdiv 1000000000), l_3 ++ [aa .u32 (u_2.tmod 1000000000)])
 )
 )
 ) (
 some (l_3)
 )
 )) (aa .u64 ((aa .u64 (Fj (0 - (Fj (n' + 1))))) + 1), [])) fun l_7 => (
 bdO (aS n true l_7) fun v15 => (
 some (v15)
 )
 )
 ) (
 bdO (aM (α := Int × List Int) (β := List Int) n (fun again23 (u_17, l_18) => (
 cdO (decide (u_17 > 0)) (
 gdO (decide ((l_18.length + 1) * 4 <= 140737488355328)) (
 gdO (decide (l_18.length + 1 <= 4611686018427387904)) (
 again23 (aa .u64 (u_17.tdiv 1000000000), l_18 ++ [aa .u32 (u_17.tmod 1000000000)])
 )
 )
 ) (
 some (l_18)
 )
 )) (aa .u64 n', [])) fun l_22 => (
 bdO (aS n false l_22) fun v30 => (
 some (v30)
 )
 )
 )

def ch (n : Nat) (n' : Int) : Option (ah) :=
 bdO (gj n n') fun v1 => (
 some (v1)
 )

def cP (n : Nat) (x' : ah) : Option (Bool) :=
 bdO (aM (α := Int) (β := Sum (Unit) (Bool)) n (fun again5 i_1 => (
 cdO (decide (i_1 < (x'.Groups.length : Int))) (
 gdO (inR i_1 x'.Groups.length) (
 cdO (decide ((gt x'.Groups i_1) >= 1000000000)) (
 some (Sum.inr (false))
 ) (
 again5 (Fj (i_1 + 1))
 )
 )
 ) (
 some (Sum.inl ())
 )
 )) 0) fun o9 => (
 match o9 with
 | .inl _ => (
 cdO (((x'.Groups.length : Int) : Int) == 0) (
 some (!x'.Negative)
 ) (
 gdO (inR (Fj ((x'.Groups.length : Int) - 1)) x'.Groups.length) (
 some (((gt x'.Groups (Fj ((x'.Groups.length : Int) - 1))) : Int) != 0)
 )
 )
 )
 | .inr (r0) => (
 some r0
 ))

def bg (n : Nat) (x' : ah) : Option (ah) :=
 bdO (cP n x') fun v1 => (
 cdO (!v1) (
 some (ah.mk false [])
 ) (
 gdO (decide ((0 + x'.Groups.length) * 4 <= 140737488355328)) (
 gdO (decide (0 + x'.Groups.length <= 4611686018427387904)) (
 some (x')
 )
 )
 )
 )

def cD (n : Nat) (x' : ah) : Option (Int) :=
 bdO (bg n x') fun v1 => (
 cdO (((v1.Groups.length : Int) : Int) == 0) (
 some (0)
 ) (
 cdO v1.Negative (
 some ((-1))
 ) (
 some (1)
 )
 )
 )

def eV (n : Nat) (a : List Int) (d : Int) : Option (List Int × Int) :=
 gdO (decide (0 <= (a.length : Int))) (
 gdO (decide ((4 : Int) * (a.length : Int) <= 281474976710656)) (
 gdO (decide ((a.length : Int) <= 9223372036854775807)) (
 bdO (aM (α := List Int × Int × Int) (β := List Int × Int) n (fun again13 (q_4, r_5, i_6) => (
 cdO (decide (i_6 >= 0)) (
 gdO (inR i_6 a.length) (
 gdO (!decide (d = 0)) (
 gdO (inR i_6 q_4.length) (
 again13 (q_4.set i_6.toNat (aa .u32 (aa .u64 ((aa .u64 ((aa .u64 (r_5 * 1000000000)) + (aa .u64 (gt a i_6)))).tdiv d))), (aa .u64 ((aa .u64 (r_5 * 1000000000)) + (aa .u64 (gt a i_6)))).tmod d, Fj (i_6 - 1))
 )
 )
 )
 ) (
 some ((q_4, r_5))
 )
 )) (List.replicate (a.length : Int).toNat ((0 : Int) : Int), 0, Fj ((a.length : Int) - 1))) fun o18 => (
 match o18 with
 | (q_11, r_12) => (
 bdO (aS n false q_11) fun v21 => (
 some ((v21.Groups, r_12))
 )
 ))
 )
 )
 )

def c5 (n : Nat) (a : List Int) (b : List Int) : Option (Int) :=
 cdO (((a.length : Int) : Int) != (b.length : Int)) (
 cdO (decide ((a.length : Int) < (b.length : Int))) (
 some ((-1))
 ) (
 some (1)
 )
 ) (
 bdO (aM (α := Int) (β := Sum (Unit) (Int)) n (fun again9 i_3 => (
 cdO (decide (i_3 >= 0)) (
 gdO (inR i_3 a.length) (
 gdO (inR i_3 b.length) (
 cdO (decide ((gt a i_3) < (gt b i_3))) (
 some (Sum.inr ((-1)))
 ) (
 cdO (decide ((gt a i_3) > (gt b i_3))) (
 some (Sum.inr (1))
 ) (
 again9 (Fj (i_3 - 1))
 )
 )
 )
 )
 ) (
 some (Sum.inl ())
 )
 )) (Fj ((a.length : Int) - 1))) fun o15 => (
 match o15 with
 | .inl _ => (
 some (0)
 )
 | .inr (r0) => (
 some r0
 ))
 )

def cl (n : Nat) (a : List Int) (d : Int) : Option (List Int) :=
 bdO (aM (α := List Int × Int × Int) (β := List Int × Int) n (fun again10 (o_1, c_2, i_3) => (
 cdO (decide (i_3 < (a.length : Int))) (
 gdO (inR i_3 a.length) (
 gdO (decide ((o_1.length + 1) * 4 <= 140737488355328)) (
 gdO (decide (o_1.length + 1 <= 4611686018427387904)) (
 again10 (o_1 ++ [aa .u32 ((aa .u64 ((aa .u64 ((aa .u64 (gt a i_3)) * d)) + c_2)).tmod 1000000000)], aa .u64 ((aa .u64 ((aa .u64 ((aa .u64 (gt a i_3)) * d)) + c_2)).tdiv 1000000000), Fj (i_3 + 1))
 )
 )
 )
 ) (
 some ((o_1, c_2))
 )
 )) ([], 0, 0)) fun o15 => (
 match o15 with
 | (o_8, c_9) => (
 gdO (decide ((o_8.length + 1) * 4 <= 140737488355328)) (
 gdO (decide (o_8.length + 1 <= 4611686018427387904)) (
 bdO (aS n false (o_8 ++ [aa .u32 c_9])) fun v20 => (
 some (v20.Groups)
 )
 )
 )
 ))

def dU (n : Nat) (a : List Int) (d : Int) : Option (List Int) :=
 gdO (decide ((1 + a.length) * 4 <= 140737488355328)) (
 gdO (decide (1 + a.length <= 4611686018427387904)) (
 bdO (aS n false ([d] ++ a)) fun v3 => (
 some (v3.Groups)
 )
 )
 )

def aX (n : Nat) (l : List Int) (i : Int) : Option (Int) :=
 cdO (decide (i < (l.length : Int))) (
 gdO (inR i l.length) (
 some (aa .u64 (gt l i))
 )
 ) (
 some (0)
 )

def cj (n : Nat) (a : List Int) (b : List Int) : Option (List Int) :=
 bdO (aM (α := List Int × Int × Int) (β := List Int) n (fun again12 (o_1, b_2, i_3) => (
 cdO (decide (i_3 < (a.length : Int))) (
 bdO (aX n a i_3) fun v14 => (
 bdO (aX n b i_3) fun v16 => (
 gdO (decide ((o_1.length + 1) * 4 <= 140737488355328)) (
 gdO (decide (o_1.length + 1 <= 4611686018427387904)) (
 again12 (o_1 ++ [aa .u32 ((aa .u64 ((aa .u64 ((aa .u64 (1000000000 + v14)) - v16)) - b_2)).tmod 1000000000)], aa .u64 (1 - (aa .u64 ((aa .u64 ((aa .u64 ((aa .u64 (1000000000 + v14)) - v16)) - b_2)).tdiv 1000000000))), Fj (i_3 + 1))
 )
 )
 )
 )
 ) (
 some (o_1)
 )
 )) ([], 0, 0)) fun o_11 => (
 bdO (aS n false o_11) fun v23 => (
 some (v23.Groups)
 )
 )

def dh (n : Nat) (a : List Int) (b : List Int) : Option (List Int × List Int) :=
 cdO (((b.length : Int) : Int) == 1) (
 gdO (inR 0 b.length) (
 bdO (eV n a (aa .u64 (gt b 0))) fun v3 => (
 bdO (aS n false [(aa .u32 v3.2)]) fun v5 => (
 some ((v3.1, v5.Groups))
 )
 )
 )
 ) (
 bdO (c5 n a b) fun v7 => (
 cdO (decide (v7 < 0)) (
 some (([], a))
 ) (
 gdO (inR (Fj ((b.length : Int) - 1)) b.length) (
 gdO (!decide (aa .u64 ((aa .u64 (gt b (Fj ((b.length : Int) - 1)))) + 1) = 0)) (
 bdO (cl n a (aa .u64 ((1000000000 : Int).tdiv (aa .u64 ((aa .u64 (gt b (Fj ((b.length : Int) - 1)))) + 1))))) fun v12 => (
 bdO (cl n b (aa .u64 ((1000000000 : Int).tdiv (aa .u64 ((aa .u64 (gt b (Fj ((b.length : Int) - 1)))) + 1))))) fun v14 => (
 gdO (inS (Fj ((Fj ((v12.length : Int) - (b.length : Int))) + 1)) (v12.length : Int) v12.length) (
 bdO (aS n false ((v12.drop (Fj ((Fj ((v12.length : Int) - (b.length : Int))) + 1)).toNat).take ((v12.length : Int).toNat - (Fj ((Fj ((v12.length : Int) - (b.length : Int))) + 1)).toNat))) fun v17 => (
 gdO (decide (0 <= Fj ((Fj ((v12.length : Int) - (b.length : Int))) + 1))) (
 gdO (decide ((4 : Int) * (Fj ((Fj ((v12.length : Int) - (b.length : Int))) + 1)) <= 281474976710656)) (
 gdO (decide (Fj ((Fj ((v12.length : Int) - (b.length : Int))) + 1) <= 9223372036854775807)) (
 bdO (aM (α := List Int × List Int × Int) (β := List Int × List Int) n (fun again60 (r_22, q_23, i_24) => (
 cdO (decide (i_24 >= 0)) (
 gdO (inR i_24 v12.length) (
 bdO (dU n r_22 (gt v12 i_24)) fun v63 => (
 bdO (aX n v63 (b.length : Int)) fun v65 => (
 bdO (aX n v63 (Fj ((b.length : Int) - 1))) fun v67 => (
 gdO (inR (Fj ((b.length : Int) - 1)) v14.length) (
 gdO (!decide (aa .u64 ((aa .u64 (gt v14 (Fj ((b.length : Int) - 1)))) + 1) = 0)) (
 bdO (cl n v14 (aa .u64 ((aa .u64 ((aa .u64 (v65 * 1000000000)) + v67)).tdiv (aa .u64 ((aa .u64 (gt v14 (Fj ((b.length : Int) - 1)))) + 1))))) fun v71 => (
 bdO (cj n v63 v71) fun v73 => (
 bdO (aM (α := List Int × Int) (β := List Int × Int) n (fun again84 (r_75, g_76) => (
 bdO (c5 n r_75 v14) fun v85 => (
 cdO (decide (v85 >= 0)) (
 bdO (cj n r_75 v14) fun v88 => (
 again84 (v88, aa .u64 (g_76 + 1))
 )
 ) (
 some ((r_75, g_76))
 )
 )
 )) (v73, aa .u64 ((aa .u64 ((aa .u64 (v65 * 1000000000)) + v67)).tdiv (aa .u64 ((aa .u64 (gt v14 (Fj ((b.length : Int) - 1)))) + 1))))) fun o90 => (
 match o90 with
 | (r_82, g_83) => (
 gdO (inR i_24 q_23.length) (
 again60 (r_82, q_23.set i_24.toNat (aa .u32 g_83), Fj (i_24 - 1))
 )
 ))
 )
 )
 )
 )
 )
 )
 )
 )
 ) (
 some ((r_22, q_23))
 )
 )) (v17.Groups, List.replicate (Fj ((Fj ((v12.length : Int) - (b.length : Int))) + 1)).toNat ((0 : Int) : Int), Fj ((v12.length : Int) - (b.length : Int)))) fun o94 => (
 match o94 with
 | (r_58, q_59) => (
 bdO (eV n r_58 (aa .u64 ((1000000000 : Int).tdiv (aa .u64 ((aa .u64 (gt b (Fj ((b.length : Int) - 1)))) + 1))))) fun v97 => (
 bdO (aS n false q_59) fun v99 => (
 some ((v99.Groups, v97.1))
 )
 )
 ))
 )
 )
 )
 )
 )
 )
 )
 )
 )
 )
 )
 )

def dz (n : Nat) (a : List Int) : Option (Int) :=
 bdO (aX n a 1) fun v1 => (
 bdO (aX n a 0) fun v3 => (
 some (aa .u64 ((aa .u64 (v1 * 1000000000)) + v3))
 )
 )

def fE (n : Nat) (x' : ah) (y : ah) : Option (ah) :=
 bdO (bg n x') fun v1 => (
 bdO (bg n y) fun v3 => (
 bdO (aM (α := List Int × List Int) (β := List Int × List Int) n (fun again16 (a_5, b_6) => (
 cdO (decide ((b_6.length : Int) > 0)) (
 cdO (decide ((a_5.length : Int) > 2)) (
 bdO (dh n a_5 b_6) fun v19 => (
 again16 (b_6, v19.2)
 )
 ) (
 cdO (decide ((b_6.length : Int) > 2)) (
 bdO (dh n a_5 b_6) fun v22 => (
 again16 (b_6, v22.2)
 )
 ) (
 some ((a_5, b_6))
 )
 )
 ) (
 some ((a_5, b_6))
 )
 )) (v1.Groups, v3.Groups)) fun o24 => (
 match o24 with
 | (a_14, b_15) => (
 cdO (((b_15.length : Int) : Int) == 0) (
 bdO (aS n false a_14) fun v28 => (
 some (v28)
 )
 ) (
 bdO (dz n a_14) fun v30 => (
 bdO (dz n b_15) fun v32 => (
 bdO (aM (α := Int × Int) (β := Int) n (fun again39 (u_34, v_35) => (
 cdO (decide (v_35 > 0)) (
 gdO (!decide (v_35 = 0)) (
 again39 (v_35, u_34.tmod v_35)
 )
 ) (
 some (u_34)
 )
 )) (v30, v32)) fun u_38 => (
 bdO (aS n false [(aa .u32 (u_38.tmod 1000000000)), (aa .u32 (aa .u64 (u_38.tdiv 1000000000)))]) fun v45 => (
 some (v45)
 )
 )
 )
 )
 )
 ))
 )
 )

def eL (n : Nat) (x' : ah) : Option (ah) :=
 bdO (bg n x') fun v1 => (
 bdO (aS n (!v1.Negative) v1.Groups) fun v3 => (
 some (v3)
 )
 )

def gr (n : Nat) (a : List Int) (b : List Int) : Option (List Int) :=
 bdO (aM (α := List Int × Int × Int) (β := List Int × Int) n (fun again20 (o_1, c_2, i_3) => (
 cdO (decide (i_3 < (a.length : Int))) (
 bdO (aX n a i_3) fun v22 => (
 bdO (aX n b i_3) fun v24 => (
 gdO (decide ((o_1.length + 1) * 4 <= 140737488355328)) (
 gdO (decide (o_1.length + 1 <= 4611686018427387904)) (
 again20 (o_1 ++ [aa .u32 ((aa .u64 ((aa .u64 (v22 + v24)) + c_2)).tmod 1000000000)], aa .u64 ((aa .u64 ((aa .u64 (v22 + v24)) + c_2)).tdiv 1000000000), Fj (i_3 + 1))
 )
 )
 )
 )
 ) (
 cdO (decide (i_3 < (b.length : Int))) (
 bdO (aX n a i_3) fun v29 => (
 bdO (aX n b i_3) fun v31 => (
 gdO (decide ((o_1.length + 1) * 4 <= 140737488355328)) (
 gdO (decide (o_1.length + 1 <= 4611686018427387904)) (
 again20 (o_1 ++ [aa .u32 ((aa .u64 ((aa .u64 (v29 + v31)) + c_2)).tmod 1000000000)], aa .u64 ((aa .u64 ((aa .u64 (v29 + v31)) + c_2)).tdiv 1000000000), Fj (i_3 + 1))
 )
 )
 )
 )
 ) (
 some ((o_1, c_2))
 )
 )
 )) ([], 0, 0)) fun o35 => (
 match o35 with
 | (o_18, c_19) => (
 gdO (decide ((o_18.length + 1) * 4 <= 140737488355328)) (
 gdO (decide (o_18.length + 1 <= 4611686018427387904)) (
 bdO (aS n false (o_18 ++ [aa .u32 c_19])) fun v40 => (
 some (v40.Groups)
 )
 )
 )
 ))

def fH (n : Nat) (x' : ah) (y : ah) : Option (ah) :=
 bdO (bg n x') fun v1 => (
 bdO (bg n y) fun v3 => (
 cdO (v1.Negative == v3.Negative) (
 bdO (gr n v1.Groups v3.Groups) fun v6 => (
 bdO (aS n v1.Negative v6) fun v8 => (
 some (v8)
 )
 )
 ) (
 bdO (c5 n v1.Groups v3.Groups) fun v10 => (
 cdO (decide (v10 >= 0)) (
 bdO (cj n v1.Groups v3.Groups) fun v13 => (
 bdO (aS n v1.Negative v13) fun v15 => (
 some (v15)
 )
 )
 ) (
 bdO (cj n v3.Groups v1.Groups) fun v17 => (
 bdO (aS n v3.Negative v17) fun v19 => (
 some (v19)
 )
 )
 )
 )
 )
 )
 )

def cS (n : Nat) (x' : ah) (y : ah) : Option (ah) :=
 bdO (eL n y) fun v1 => (
 bdO (fH n x' v1) fun v3 => (
 some (v3)
 )
 )

def bE (n : Nat) (x' : ah) (y : ah) : Option (ah) :=
 bdO (bg n x') fun v1 => (
 bdO (bg n y) fun v3 => (
 gdO (decide (0 <= Fj ((v1.Groups.length : Int) + (v3.Groups.length : Int)))) (
 gdO (decide ((4 : Int) * (Fj ((v1.Groups.length : Int) + (v3.Groups.length : Int))) <= 281474976710656)) (
 gdO (decide (Fj ((v1.Groups.length : Int) + (v3.Groups.length : Int)) <= 9223372036854775807)) (
 bdO (aM (α := List Int × Int) (β := List Int) n (fun again30 (o_8, i_9) => (
 cdO (decide (i_9 < (v1.Groups.length : Int))) (
 bdO (aM (α := List Int × Int × Int) (β := List Int × Int) n (fun again41 (o_32, c_33, j_34) => (
 cdO (decide (j_34 < (v3.Groups.length : Int))) (
 gdO (inR (Fj (i_9 + j_34)) o_32.length) (
 gdO (inR i_9 v1.Groups.length) (
 gdO (inR j_34 v3.Groups.length) (
 again41 (o_32.set (Fj (i_9 + j_34)).toNat (aa .u32 ((aa .u64 ((aa .u64 ((aa .u64 (gt o_32 (Fj (i_9 + j_34)))) + (aa .u64 ((aa .u64 (gt v1.Groups i_9)) * (aa .u64 (gt v3.Groups j_34)))))) + c_33)).tmod 1000000000)), aa .u64 ((aa .u64 ((aa .u64 ((aa .u64 (gt o_32 (Fj (i_9 + j_34)))) + (aa .u64 ((aa .u64 (gt v1.Groups i_9)) * (aa .u64 (gt v3.Groups j_34)))))) + c_33)).tdiv 1000000000), Fj (j_34 + 1))
 )
 )
 )
 ) (
 some ((o_32, c_33))
 )
 )) (o_8, 0, 0)) fun o46 => (
 match o46 with
 | (o_39, c_40) => (
 gdO (inR (Fj (i_9 + (v3.Groups.length : Int))) o_39.length) (
 again30 (o_39.set (Fj (i_9 + (v3.Groups.length : Int))).toNat (aa .u32 c_40), Fj (i_9 + 1))
 )
 ))
 ) (
 some (o_8)
 )
 )) (List.replicate (Fj ((v1.Groups.length : Int) + (v3.Groups.length : Int))).toNat ((0 : Int) : Int), 0)) fun o_29 => (
 bdO (aS n (v1.Negative != v3.Negative) o_29) fun v53 => (
 some (v53)
 )
 )
 )
 )
 )
 )
 )

def cW (n : Nat) (x' : ah) (y : ah) : Option (ah × ah × Int) :=
 bdO (bg n x') fun v1 => (
 bdO (bg n y) fun v3 => (
 cdO (((v3.Groups.length : Int) : Int) == 0) (
 some ((ah.mk false [], ah.mk false [], 14))
 ) (
 bdO (dh n v1.Groups v3.Groups) fun v6 => (
 bdO (aS n (v1.Negative != v3.Negative) v6.1) fun v8 => (
 cdO (v1.Negative != v3.Negative) (
 cdO (decide ((v6.2.length : Int) > 0)) (
 bdO (gj n 1) fun v12 => (
 bdO (cS n v8 v12) fun v14 => (
 bdO (bE n v14 v3) fun v16 => (
 bdO (cS n v1 v16) fun v18 => (
 some ((v14, v18, 0))
 )
 )
 )
 )
 ) (
 bdO (bE n v8 v3) fun v20 => (
 bdO (cS n v1 v20) fun v22 => (
 some ((v8, v22, 0))
 )
 )
 )
 ) (
 bdO (bE n v8 v3) fun v24 => (
 bdO (cS n v1 v24) fun v26 => (
 some ((v8, v26, 0))
 )
 )
 )
 )
 )
 )
 )
 )

def dj (n : Nat) (num : ah) (den : ah) : Option (ai) :=
 bdO (fE n num den) fun v1 => (
 bdO (cD n den) fun v3 => (
 cdO (decide (v3 < 0)) (
 bdO (eL n v1) fun v6 => (
 bdO (cW n num v6) fun v8 => (
 bdO (cW n den v6) fun v10 => (
 some (ai.mk v8.1 v10.1)
 )
 )
 )
 ) (
 bdO (cW n num v1) fun v12 => (
 bdO (cW n den v1) fun v14 => (
 some (ai.mk v12.1 v14.1)
 )
 )
 )
 )
 )

def jN (n : Nat) (num : ah) (den : ah) : Option (ai × Int) :=
 bdO (cD n den) fun v1 => (
 cdO ((v1 : Int) == 0) (
 some ((ai.mk (ah.mk false []) (ah.mk false []), 14))
 ) (
 bdO (dj n num den) fun v4 => (
 some ((v4, 0))
 )
 )
 )

def gi (n : Nat) (n' : Int) (d : Int) : Option (ai × Int) :=
 bdO (ch n n') fun v1 => (
 bdO (ch n d) fun v3 => (
 bdO (jN n v1 v3) fun v5 => (
 some ((v5.1, v5.2))
 )
 )
 )

def fe (n : Nat) (x' : ah) (y : ah) : Option (Int) :=
 bdO (cS n x' y) fun v1 => (
 bdO (cD n v1) fun v3 => (
 some (v3)
 )
 )

def cQ (n : Nat) (x' : ai) : Option (Bool) :=
 bdO (cP n x'.Num) fun v1 => (
 cdO (!v1) (
 some (false)
 ) (
 bdO (cP n x'.Den) fun v4 => (
 cdO (!v4) (
 some (false)
 ) (
 bdO (cD n x'.Den) fun v7 => (
 cdO (decide (v7 <= 0)) (
 some (false)
 ) (
 bdO (fE n x'.Num x'.Den) fun v10 => (
 bdO (ch n 1) fun v12 => (
 bdO (fe n v10 v12) fun v14 => (
 some ((v14 : Int) == 0)
 )
 )
 )
 )
 )
 )
 )
 )
 )

def km (n : Nat) (n' : Int) : Option (ai) :=
 bdO (ch n n') fun v1 => (
 bdO (ch n 1) fun v3 => (
 some (ai.mk v1 v3)
 )
 )

def cz (n : Nat) (x' : ai) : Option (ai) :=
 bdO (cQ n x') fun v1 => (
 cdO v1 (
 some (x')
 ) (
 bdO (km n 0) fun v4 => (
 some (v4)
 )
 )
 )

def gT (n : Nat) (x' : ai) : Option (ai) :=
 bdO (cz n x') fun v1 => (
 bdO (eL n v1.Num) fun v3 => (
 some (ai.mk v3 v1.Den)
 )
 )

def hZ (n : Nat) (x' : ai) (y : ai) : Option (ai) :=
 bdO (cz n x') fun v1 => (
 bdO (cz n y) fun v3 => (
 bdO (bE n v1.Num v3.Den) fun v5 => (
 bdO (bE n v3.Num v1.Den) fun v7 => (
 bdO (fH n v5 v7) fun v9 => (
 bdO (bE n v1.Den v3.Den) fun v11 => (
 bdO (dj n v9 v11) fun v13 => (
 some (v13)
 )
 )
 )
 )
 )
 )
 )

def fI (n : Nat) (x' : ai) (y : ai) : Option (ai) :=
 bdO (gT n y) fun v1 => (
 bdO (hZ n x' v1) fun v3 => (
 some (v3)
 )
 )

def gx (n : Nat) (x' : ai) : Option (Int) :=
 bdO (cz n x') fun v1 => (
 bdO (cD n v1.Num) fun v3 => (
 some (v3)
 )
 )

def b8 (n : Nat) (x' : ai) (y : ai) : Option (Int) :=
 bdO (fI n x' y) fun v1 => (
 bdO (gx n v1) fun v3 => (
 some (v3)
 )
 )

def kV (n : Nat) (x' : ai) (y : ai) : Option (Bool) :=
 bdO (cQ n x') fun v1 => (
 cdO v1 (
 bdO (cQ n y) fun v4 => (
 cdO v4 (
 bdO (b8 n x' y) fun v7 => (
 some ((v7 : Int) == 0)
 )
 ) (
 some (false)
 )
 )
 ) (
 some (false)
 )
 )

def bU (n : Nat) (n' : Int) : Option (List ak) :=
 gdO (!(decide (n' < 0))) (
 cdO (decide ((Fj (n' - 0)) > 0)) (
 gdO (decide (0 < (Fj (n' - 0)))) (
 gdO (decide ((Fj (n' - 0)) <= 4611686018427387904)) (
 gdO (decide ((Fj (n' - 0)).toNat * 80 <= 140737488355328)) (
 gdO (inS 0 0 (Fj (n' - 0)).toNat) (
 some (([] : List ak))
 )
 )
 )
 )
 ) (
 some ([])
 )
 )

def bW (n : Nat) (slices : List (List ak)) : Option (List ak) :=
 bdO (aM (α := Int × Int) (β := Int) n (fun again7 (s_1, x_2) => (
 cdO (decide (x_2 < (slices.length : Int))) (
 gdO (inR x_2 slices.length) (
 gdO (!(decide ((Fj (s_1 + ((gt slices x_2).length : Int))) < 0))) (
 again7 (Fj (s_1 + ((gt slices x_2).length : Int)), Fj (x_2 + 1))
 )
 )
 ) (
 some (s_1)
 )
 )) (0, 0)) fun s_6 => (
 bdO (bU n s_6) fun v14 => (
 bdO (aM (α := List ak × Int) (β := List ak) n (fun again23 (n_16, x_17) => (
 cdO (decide (x_17 < (slices.length : Int))) (
 gdO (inR x_17 slices.length) (
 gdO (decide ((n_16.length + (gt slices x_17).length) * 80 <= 140737488355328)) (
 gdO (decide (n_16.length + (gt slices x_17).length <= 4611686018427387904)) (
 again23 (n_16 ++ (gt slices x_17), Fj (x_17 + 1))
 )
 )
 )
 ) (
 some (n_16)
 )
 )) (v14, 0)) fun n_22 => (
 some (n_22)
 )
 )
 )

def nU (n : Nat) (c : ag) : Option (ag) :=
 cdO (!c.Closed) (
 some (c)
 ) (
 bdO (aM (α := Int × Int) (β := Int) n (fun again34 (a_24, x_25) => (
 cdO (decide (x_25 < (c.Points.length : Int))) (
 gdO (inR x_25 c.Points.length) (
 gdO (inR a_24 c.Points.length) (
 bdO (gK n (A2.mk (gt c.Points x_25).A (gt c.Points x_25).B) (A2.mk (gt c.Points a_24).A (gt c.Points a_24).B)) fun v39 => (
 cdO (decide (v39 < 0)) (
 again34 (x_25, Fj (x_25 + 1))
 ) (
 again34 (a_24, Fj (x_25 + 1))
 )
 )
 )
 )
 ) (
 some (a_24)
 )
 )) (0, 0)) fun a_33 => (
 gdO (inS a_33 (c.Points.length : Int) c.Points.length) (
 gdO (inS 0 a_33 c.Points.length) (
 bdO (bW n [((c.Points.drop a_33.toNat).take ((c.Points.length : Int).toNat - a_33.toNat)), ((c.Points.drop (0 : Int).toNat).take (a_33.toNat - (0 : Int).toNat))]) fun v47 => (
 some (ag.mk true v47)
 )
 )
 )
 )
 )

def mY (n : Nat) (a : ag) (b : ag) : Option (Int) :=
 bdO (gg n a) fun v1 => (
 bdO (gg n b) fun v3 => (
 bdO (gK n v1 v3) fun v5 => (
 some (v5)
 )
 )
 )

def bk (n : Nat) (data : List ag) (a : Int) (b : Int) : Option (List ag) :=
 bdO (aM (α := List ag × Int) (β := List ag) n (fun again72 (d_49, i_50) => (
 cdO (decide (i_50 < b)) (
 bdO (aM (α := List ag × Int) (β := List ag) n (fun again83 (d_74, j_75) => (
 cdO (decide (j_75 > a)) (
 gdO (inR j_75 d_74.length) (
 gdO (inR (Fj (j_75 - 1)) d_74.length) (
 bdO (mY n (gt d_74 j_75) (gt d_74 (Fj (j_75 - 1)))) fun v87 => (
 cdO (decide (v87 < 0)) (
 again83 ((d_74.set j_75.toNat (gt d_74 (Fj (j_75 - 1)))).set (Fj (j_75 - 1)).toNat (gt d_74 j_75), Fj (j_75 - 1))
 ) (
 some (d_74)
 )
 )
 )
 )
 ) (
 some (d_74)
 )
 )) (d_49, i_50)) fun d_82 => (
 again72 (d_82, Fj (i_50 + 1))
 )
 ) (
 some (d_49)
 )
 )) (data, Fj (a + 1))) fun d_71 => (
 some (d_71)
 )

def bx (n : Nat) (data : List ag) (a : Int) (b : Int) (limit : Int) : Option (List ag) :=
 bdO (aM (α := Int × Int × Int × Bool × Bool) (β := List ag) n (fun again31 (a_21, b_22, l_23, w_24, w_25) => (
 gdO ((decide ((Fj (b_22 - a_21)) <= 12))) (
 bdO (bk n data a_21 b_22) fun v33 => (
 some (v33)
 )
 )
 )) (a, b, limit, true, true)) fun r0 => (
 some r0
 )

def a9 (n : Nat) (x' : List ag) : Option (List ag) :=
 bdO (kH n (aa .u64 (x'.length : Int))) fun v6 => (
 bdO (bx n x' 0 (x'.length : Int) v6) fun v8 => (
 some (v8)
 )
 )

def nA (n : Nat) (p : ak) (q : ak) : Option (Bool) :=
 cdO ((p.A : Int) == q.A) (
 cdO ((p.B : Int) == q.B) (
 bdO (dW n p.At) fun v3 => (
 cdO v3 (
 bdO (dW n q.At) fun v6 => (
 cdO v6 (
 bdO (j7 n p.At q.At) fun v9 => (
 some ((v9 : Int) == 0)
 )
 ) (
 some (false)
 )
 )
 ) (
 some (false)
 )
 )
 ) (
 some (false)
 )
 ) (
 some (false)
 )

def aN (n : Nat) (s1 : List ak) (s2 : List ak) : Option (Bool) :=
 cdO (((s1.length : Int) : Int) != (s2.length : Int)) (
 some (false)
 ) (
 bdO (aM (α := Int) (β := Sum (Unit) (Bool)) n (fun again9 x_2 => (
 cdO (decide (x_2 < (s1.length : Int))) (
 gdO (inR x_2 s1.length) (
 gdO (inR x_2 s2.length) (
 bdO (nA n (gt s1 x_2) (gt s2 x_2)) fun v13 => (
 cdO (!v13) (
 some (Sum.inr (false))
 ) (
 again9 (Fj (x_2 + 1))
 )
 )
 )
 )
 ) (
 some (Sum.inl ())
 )
 )) 0) fun o16 => (
 match o16 with
 | .inl _ => (
 some (true)
 )
 | .inr (r0) => (
 some r0
 ))
 )

def p8 (n : Nat) (a : ag) (b : ag) : Option (Bool) :=
 cdO (a.Closed == b.Closed) (
 bdO (aN n a.Points b.Points) fun v2 => (
 some (v2)
 )
 ) (
 some (false)
 )

def aO (n : Nat) (s1 : List ag) (s2 : List ag) : Option (Bool) :=
 cdO (((s1.length : Int) : Int) != (s2.length : Int)) (
 some (false)
 ) (
 bdO (aM (α := Int) (β := Sum (Unit) (Bool)) n (fun again9 x_2 => (
 cdO (decide (x_2 < (s1.length : Int))) (
 gdO (inR x_2 s1.length) (
 gdO (inR x_2 s2.length) (
 bdO (p8 n (gt s1 x_2) (gt s2 x_2)) fun v13 => (
 cdO (!v13) (
 some (Sum.inr (false))
 ) (
 again9 (Fj (x_2 + 1))
 )
 )
 )
 )
 ) (
 some (Sum.inl ())
 )
 )) 0) fun o16 => (
 match o16 with
 | .inl _ => (
 some (true)
 )
 | .inr (r0) => (
 some r0
 ))
 )

noncomputable def kF (n : Nat) (g : al) (level : Int) (l : List ag) : Option (Int) :=
 bdO (dD n g level) fun v1 => (
 cdO ((v1 : Int) != 0) (
 some (v1)
 ) (
 bdO (aM (α := List ag × Int) (β := Sum (List ag) (Int)) n (fun again16 (g_5, x_6) => (
 cdO (decide (x_6 < (l.length : Int))) (
 gdO (inR x_6 l.length) (
 cdO ((((gt l x_6).Points.length : Int) : Int) == 0) (
 some (Sum.inr (12))
 ) (
 bdO (nU n (gt l x_6)) fun v21 => (
 gdO (decide ((g_5.length + 1) * 32 <= 140737488355328)) (
 gdO (decide (g_5.length + 1 <= 4611686018427387904)) (
 again16 (g_5 ++ [v21], Fj (x_6 + 1))
 )
 )
 )
 )
 )
 ) (
 some (Sum.inl g_5)
 )
 )) ([], 0)) fun o25 => (
 match o25 with
 | .inl g_15 => (
 bdO (a9 n g_15) fun v28 => (
 gdO (decide (v28.length = g_15.length)) (
 bdO (im n g level) fun v31 => (
 bdO (aO n v28 v31) fun v33 => (
 cdO (!v33) (
 some (12)
 ) (
 some (0)
 )
 )
 )
 )
 )
 )
 | .inr (r0) => (
 some r0
 ))
 )
 )

noncomputable def fQ (n : Nat) : Option (Bool) :=
 bdO (di n) fun v1 => (
 bdO (kr n v1 1) fun v3 => (
 cdO ((v3.2 : Int) != 0) (
 some (false)
 ) (
 cdO (((v3.1.length : Int) : Int) != 1) (
 some (false)
 ) (
 gdO (inR 0 v3.1.length) (
 cdO (!(gt v3.1 0).Closed) (
 some (false)
 ) (
 cdO ((((gt v3.1 0).Points.length : Int) : Int) != 6) (
 some (false)
 ) (
 gdO (inR 1 (gt v3.1 0).Points.length) (
 cdO (((gt (gt v3.1 0).Points 1).A : Int) != 1) (
 some (false)
 ) (
 cdO (((gt (gt v3.1 0).Points 1).B : Int) != 4) (
 some (false)
 ) (
 bdO (di n) fun v13 => (
 bdO (ft n v13 1) fun v15 => (
 bdO (di n) fun v17 => (
 bdO (oN n v17 (gt v3.1 0) 1 1) fun v19 => (
 bdO (gi n 147 16) fun v21 => (
 cdO ((v15.2 : Int) == 0) (
 cdO ((v19.2 : Int) == 0) (
 cdO ((v19.1 : Int) == 1) (
 bdO (kV n v15.1 v21.1) fun v26 => (
 cdO v26 (
 bdO (di n) fun v29 => (
 bdO (kF n v29 1 v3.1) fun v31 => (
 some ((v31 : Int) == 0)
 )
 )
 ) (
 some (false)
 )
 )
 ) (
 some (false)
 )
 ) (
 some (false)
 )
 ) (
 some (false)
 )
 )
 )
 )
 )
 )
 )
 )
 )
 )
 )
 )
 )
 )
 )
 )

def lC (n : Nat) (g : al) (n' : Int) : Option (Bool) :=
 some (decide ((g.Z.length : Int) <= n'))

def dT (n : Nat) (n' : Int) : Option (Bool) :=
 cdO (decide (n' < (-1048576))) (
 some (true)
 ) (
 some (decide (n' > 1048576))
 )

def fS (n : Nat) (g : al) : Option (Int) :=
 cdO (decide (g.Width < 2)) (
 some (2)
 ) (
 cdO (decide (g.Width > 64)) (
 some (2)
 ) (
 cdO (decide (g.Height < 2)) (
 some (2)
 ) (
 cdO (decide (g.Height > 64)) (
 some (2)
 ) (
 cdO (decide (g.Step < 2)) (
 some (2)
 ) (
 cdO (decide (g.Step > 65536)) (
 some (2)
 ) (
 cdO (((g.Step.tmod 2) : Int) != 0) (
 some (2)
 ) (
 bdO (dT n g.X0) fun v8 => (
 cdO v8 (
 some (2)
 ) (
 bdO (dT n g.Y0) fun v11 => (
 cdO v11 (
 some (2)
 ) (
 cdO (((g.Z.length : Int) : Int) != (Fj (g.Width * g.Height))) (
 some (4)
 ) (
 bdO (aM (α := Int) (β := Sum (Unit) (Int)) n (fun again22 x_15 => (
 cdO (decide (x_15 < (g.Z.length : Int))) (
 gdO (inR x_15 g.Z.length) (
 cdO (((gt g.Z x_15) : Int) != (-2147483648)) (
 bdO (dT n (gt g.Z x_15)) fun v26 => (
 cdO v26 (
 some (Sum.inr (2))
 ) (
 again22 (Fj (x_15 + 1))
 )
 )
 ) (
 again22 (Fj (x_15 + 1))
 )
 )
 ) (
 some (Sum.inl ())
 )
 )) 0) fun o29 => (
 match o29 with
 | .inl _ => (
 some (0)
 )
 | .inr (r0) => (
 some r0
 ))
 )
 )
 )
 )
 )
 )
 )
 )
 )
 )
 )
 )

def cM (n : Nat) (g : al) (level : Int) : Option (Int) :=
 bdO (fS n g) fun v1 => (
 cdO ((v1 : Int) != 0) (
 some (v1)
 ) (
 cdO (((level.tmod 2) : Int) == 0) (
 some (1)
 ) (
 cdO (decide (level < (-2097153))) (
 some (2)
 ) (
 cdO (decide (level > 2097153)) (
 some (2)
 ) (
 some (0)
 )
 )
 )
 )
 )

def jr (n : Nat) (x' : ai) : Option (ai) :=
 bdO (bF n 3) fun v1 => (
 bdO (gN n x' v1) fun v3 => (
 some (v3.1)
 )
 )

def eA (n : Nat) (a : ai) (b : ai) (c : ai) (tip : ai) : Option (ai) :=
 bdO (b7 n b c) fun v1 => (
 bdO (b7 n a v1) fun v3 => (
 bdO (jr n v3) fun v5 => (
 bdO (c6 n v5 tip) fun v7 => (
 some (v7)
 )
 )
 )
 )

def fm (n : Nat) (a : ai) (b : ai) (c : ai) : Option (ai) :=
 bdO (gh n a b c) fun v1 => (
 bdO (cO n a v1) fun v3 => (
 bdO (jr n v3) fun v5 => (
 some (v5)
 )
 )
 )

def fU (n : Nat) (t : A3 Int) (p : Int) (p' : Int) (p'' : Int) (AU : Int) (wQ : Int) (iI : List Int) (lJ : Int) (j5 : Bool) (fG : List Int) (fl : Bool) (hO : List Int) : Option (Bool × List Int × Bool × List Int) :=
 bdO (α := Bool × List Int × Bool × List Int × Int) (
 gdO (inR t.e0 iI.length) (
 bdO (dS n (Fj ((Fj (2 * (gt iI t.e0))) - lJ)) 2) fun v285 => (
 bdO (a7 n v285.1) fun v287 => (
 cdO (decide (v287 > 0)) (
 some ((v285.1.Num.Negative, v285.1.Num.Groups, v285.1.Den.Negative, v285.1.Den.Groups, 1))
 ) (
 some ((v285.1.Num.Negative, v285.1.Num.Groups, v285.1.Den.Negative, v285.1.Den.Groups, 0))
 )
 )
 )
 )
 ) fun o290 => (
 match o290 with
 | (h_279, h_280, h_281, h_282, u_283) => (
 bdO (α := Bool × List Int × Bool × List Int × Int) (
 gdO (inR t.e1 iI.length) (
 bdO (dS n (Fj ((Fj (2 * (gt iI t.e1))) - lJ)) 2) fun v299 => (
 bdO (a7 n v299.1) fun v301 => (
 cdO (decide (v301 > 0)) (
 some ((v299.1.Num.Negative, v299.1.Num.Groups, v299.1.Den.Negative, v299.1.Den.Groups, Fj (u_283 + 1)))
 ) (
 some ((v299.1.Num.Negative, v299.1.Num.Groups, v299.1.Den.Negative, v299.1.Den.Groups, u_283))
 )
 )
 )
 )
 ) fun o304 => (
 match o304 with
 | (h_293, h_294, h_295, h_296, u_297) => (
 bdO (α := Bool × List Int × Bool × List Int × Int) (
 gdO (inR t.e2 iI.length) (
 bdO (dS n (Fj ((Fj (2 * (gt iI t.e2))) - lJ)) 2) fun v313 => (
 bdO (a7 n v313.1) fun v315 => (
 cdO (decide (v315 > 0)) (
 some ((v313.1.Num.Negative, v313.1.Num.Groups, v313.1.Den.Negative, v313.1.Den.Groups, Fj (u_297 + 1)))
 ) (
 some ((v313.1.Num.Negative, v313.1.Num.Groups, v313.1.Den.Negative, v313.1.Den.Groups, u_297))
 )
 )
 )
 )
 ) fun o318 => (
 match o318 with
 | (h_307, h_308, h_309, h_310, u_311) => (
 cdO ((u_311 : Int) == 0) (
 some ((j5, fG, fl, hO))
 ) (
 cdO ((u_311 : Int) == 3) (
 bdO (bF n 0) fun v346 => (
 bdO (eA n (ai.mk (ah.mk h_279 h_280) (ah.mk h_281 h_282)) (ai.mk (ah.mk h_293 h_294) (ah.mk h_295 h_296)) (ai.mk (ah.mk h_307 h_308) (ah.mk h_309 h_310)) v346) fun v348 => (
 bdO (b7 n (ai.mk (ah.mk j5 fG) (ah.mk fl hO)) v348) fun v350 => (
 some ((v350.Num.Negative, v350.Num.Groups, v350.Den.Negative, v350.Den.Groups))
 )
 )
 )
 ) (
 bdO (aM (α := Bool × List Int × Bool × List Int × Bool × List Int × Bool × List Int × Bool × List Int × Bool × List Int) (β := Bool × List Int × Bool × List Int × Bool × List Int × Bool × List Int × Bool × List Int × Bool × List Int) n (fun again443 (h_406, h_407, h_408, h_409, h_410, h_411, h_412, h_413, h_414, h_415, h_416, h_417) => (
 bdO (α := Sum (Unit) (Unit)) (
 bdO (a7 n (ai.mk (ah.mk h_406 h_407) (ah.mk h_408 h_409))) fun v446 => (
 cdO ((decide (v446 > 0)) != ((u_311 : Int) == 1)) (
 some (Sum.inr (()))
 ) (
 bdO (a7 n (ai.mk (ah.mk h_410 h_411) (ah.mk h_412 h_413))) fun v449 => (
 bdO (a7 n (ai.mk (ah.mk h_414 h_415) (ah.mk h_416 h_417))) fun v451 => (
 cdO ((decide (v449 > 0)) != (decide (v451 > 0))) (
 some (Sum.inr (()))
 ) (
 some (Sum.inl ())
 )
 )
 )
 )
 )
 ) fun o454 => (
 match o454 with
 | .inl _ => (
 some ((h_406, h_407, h_408, h_409, h_410, h_411, h_412, h_413, h_414, h_415, h_416, h_417))
 )
 | .inr (_) => (
 again443 (h_410, h_411, h_412, h_413, h_414, h_415, h_416, h_417, h_406, h_407, h_408, h_409)
 ))
 )) (h_279, h_280, h_281, h_282, h_293, h_294, h_295, h_296, h_307, h_308, h_309, h_310)) fun o457 => (
 match o457 with
 | (h_431, h_432, h_433, h_434, h_435, h_436, h_437, h_438, h_439, h_440, h_441, h_442) => (
 bdO (fm n (ai.mk (ah.mk h_431 h_432) (ah.mk h_433 h_434)) (ai.mk (ah.mk h_435 h_436) (ah.mk h_437 h_438)) (ai.mk (ah.mk h_439 h_440) (ah.mk h_441 h_442))) fun v460 => (
 cdO ((u_311 : Int) == 2) (
 bdO (eA n (ai.mk (ah.mk h_431 h_432) (ah.mk h_433 h_434)) (ai.mk (ah.mk h_435 h_436) (ah.mk h_437 h_438)) (ai.mk (ah.mk h_439 h_440) (ah.mk h_441 h_442)) v460) fun v463 => (
 bdO (b7 n (ai.mk (ah.mk j5 fG) (ah.mk fl hO)) v463) fun v465 => (
 some ((v465.Num.Negative, v465.Num.Groups, v465.Den.Negative, v465.Den.Groups))
 )
 )
 ) (
 bdO (b7 n (ai.mk (ah.mk j5 fG) (ah.mk fl hO)) v460) fun v467 => (
 some ((v467.Num.Negative, v467.Num.Groups, v467.Den.Negative, v467.Den.Groups))
 )
 )
 )
 ))
 )
 )
 ))
 ))
 ))

def bK (n : Nat) (g : al) (c : Int) (c' : Int) (c'' : Int) (wA : Int) (rV : Int) (oM : List Int) (mv : Int) (qy : Bool) (pz : List Int) (rY : Bool) (qM : List Int) : Option (Bool × List Int × Bool × List Int) :=
 bdO (aM (α := Bool × List Int × Bool × List Int × Int) (β := Bool × List Int × Bool × List Int) n (fun again318 (c_212, c_213, c_214, c_215, x_216) => (
 cdO (decide (x_216 < (Fj (g.Height - 1)))) (
 bdO (aM (α := Bool × List Int × Bool × List Int × Int) (β := Bool × List Int × Bool × List Int) n (fun again371 (c_321, c_322, c_323, c_324, x_325) => (
 cdO (decide (x_325 < (Fj (g.Width - 1)))) (
 bdO (some (Fj ((Fj (x_216 * g.Width)) + x_325))) fun w374 => (
 bdO (some [A3.mk w374 (Fj (w374 + 1)) (Fj ((Fj (w374 + g.Width)) + 1)), A3.mk w374 (Fj ((Fj (w374 + g.Width)) + 1)) (Fj (w374 + g.Width))]) fun w376 => (
 bdO (aM (α := Bool × List Int × Bool × List Int × Int) (β := Bool × List Int × Bool × List Int) n (fun again398 (c_378, c_379, c_380, c_381, x_382) => (
 cdO (decide (x_382 < 2)) (
 gdO (inR x_382 w376.length) (
 gdO (inR (gt w376 x_382).e0 g.Z.length) (
 cdO (((gt g.Z (gt w376 x_382).e0) : Int) != (-2147483648)) (
 gdO (inR (gt w376 x_382).e1 g.Z.length) (
 cdO (((gt g.Z (gt w376 x_382).e1) : Int) != (-2147483648)) (
 gdO (inR (gt w376 x_382).e2 g.Z.length) (
 cdO (((gt g.Z (gt w376 x_382).e2) : Int) != (-2147483648)) (
 bdO (fU n (gt w376 x_382) c c' c'' wA rV oM mv c_378 c_379 c_380 c_381) fun v408 => (
 again398 (v408.1, v408.2.1, v408.2.2.1, v408.2.2.2, Fj (x_382 + 1))
 )
 ) (
 again398 (c_378, c_379, c_380, c_381, Fj (x_382 + 1))
 )
 )
 ) (
 again398 (c_378, c_379, c_380, c_381, Fj (x_382 + 1))
 )
 )
 ) (
 again398 (c_378, c_379, c_380, c_381, Fj (x_382 + 1))
 )
 )
 )
 ) (
 some ((c_378, c_379, c_380, c_381))
 )
 )) (c_321, c_322, c_323, c_324, 0)) fun o410 => (
 match o410 with
 | (c_394, c_395, c_396, c_397) => (
 again371 (c_394, c_395, c_396, c_397, Fj (x_325 + 1))
 ))
 )
 )
 ) (
 some ((c_321, c_322, c_323, c_324))
 )
 )) (c_212, c_213, c_214, c_215, 0)) fun o413 => (
 match o413 with
 | (c_367, c_368, c_369, c_370) => (
 again318 (c_367, c_368, c_369, c_370, Fj (x_216 + 1))
 ))
 ) (
 some ((c_212, c_213, c_214, c_215))
 )
 )) (qy, pz, rY, qM, 0)) fun o416 => (
 match o416 with
 | (c_314, c_315, c_316, c_317) => (
 some ((c_314, c_315, c_316, c_317))
 ))

def a8 (n : Nat) (g : al) (level : Int) : Option (ai) :=
 bdO (bF n 0) fun v1 => (
 bdO (bK n g g.X0 g.Y0 g.Step g.Width g.Height g.Z level v1.Num.Negative v1.Num.Groups v1.Den.Negative v1.Den.Groups) fun v3 => (
 bdO (dS n (Fj (g.Step * g.Step)) 2) fun v5 => (
 bdO (cO n (ai.mk (ah.mk v3.1 v3.2.1) (ah.mk v3.2.2.1 v3.2.2.2)) v5.1) fun v7 => (
 some (v7)
 )
 )
 )
 )

def fy (n : Nat) (g : al) (level : Int) : Option (ai × Int) :=
 bdO (dD n g level) fun v1 => (
 cdO ((v1 : Int) != 0) (
 some ((ai.mk (ah.mk false []) (ah.mk false []), v1))
 ) (
 bdO (a8 n g level) fun v4 => (
 some ((v4, 0))
 )
 )
 )

def dR (n : Nat) (x' : ai) (y : ai) : Option (ai) :=
 bdO (cz n x') fun v1 => (
 bdO (cz n y) fun v3 => (
 bdO (bE n v1.Num v3.Num) fun v5 => (
 bdO (bE n v1.Den v3.Den) fun v7 => (
 bdO (dj n v5 v7) fun v9 => (
 some (v9)
 )
 )
 )
 )
 )

noncomputable def cX (n : Nat) (g : al) (levels : A2 Int) : Option (Bool) :=
 bdO (fQ n) fun v1 => (
 cdO (!v1) (
 some (false)
 ) (
 bdO (lC n g 40) fun v4 => (
 cdO (!v4) (
 some (true)
 ) (
 bdO (cM n g (mn levels.e0 levels.e1)) fun v7 => (
 cdO ((v7 : Int) != 0) (
 some (true)
 ) (
 bdO (cM n g (mx levels.e0 levels.e1)) fun v10 => (
 cdO ((v10 : Int) != 0) (
 some (true)
 ) (
 bdO (ft n g (mn levels.e0 levels.e1)) fun v13 => (
 bdO (ft n g (mx levels.e0 levels.e1)) fun v15 => (
 bdO (fy n g (mn levels.e0 levels.e1)) fun v17 => (
 bdO (fy n g (mx levels.e0 levels.e1)) fun v19 => (
 cdO (((Fj ((Fj ((Fj (v13.2 + v15.2)) + v17.2)) + v19.2)) : Int) != 0) (
 some (false)
 ) (
 bdO (gi n (Fj ((mx levels.e0 levels.e1) - (mn levels.e0 levels.e1))) 2) fun v22 => (
 bdO (fI n v17.1 v19.1) fun v24 => (
 bdO (b8 n v15.1 v13.1) fun v26 => (
 cdO (decide (v26 <= 0)) (
 bdO (dR n v22.1 v15.1) fun v29 => (
 bdO (b8 n v29 v24) fun v31 => (
 cdO (decide (v31 <= 0)) (
 bdO (dR n v22.1 v13.1) fun v34 => (
 bdO (b8 n v24 v34) fun v36 => (
 some (decide (v36 <= 0))
 )
 )
 ) (
 some (false)
 )
 )
 )
 ) (
 some (false)
 )
 )
 )
 )
 )
 )
 )
 )
 )
 )
 )
 )
 )
 )
 )
 )
 )
abbrev iCu := iC .u32
abbrev wFu (n : Int) : Int := aa .u64 n
abbrev zN2 : List AV := [aB false, nS, aB false, nS]
abbrev zN3 : List AV := [aB false, nS, aB false, nS, aB false, nS]
abbrev zN4 : List AV := [aB false, nS, aB false, nS, aB false, nS, aB false, nS]
end Go.L