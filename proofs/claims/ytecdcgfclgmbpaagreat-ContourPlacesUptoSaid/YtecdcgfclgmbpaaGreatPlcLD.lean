
import Derived.Test.YtecdcgfclgmbpaaGreatSc11Plcs
import Derived.Test.YtecdcgfclgmbpaaGreatScMPlcs
import Derived.Test.YtecdcgfclgmbpaaGreatScRPlcs
import Derived.Test.YtecdcgfclgmbpaaGreatScUPlcs
set_option linter.all false
set_option maxRecDepth 100000
set_option maxHeartbeats 4000000
namespace Go.L
open Go Go.Eng
def gr : ByteArray := ⟨#[0, 1, 2, 2, 3, 3, 3, 3, 4, 4, 4, 4, 4, 4, 4, 4, 5, 5, 5, 5, 5, 5, 5, 5, 5, 5, 5, 5, 5, 5, 5, 5, 6, 6, 6, 6, 6, 6, 6, 6, 6, 6, 6, 6, 6, 6, 6, 6, 6, 6, 6, 6, 6, 6, 6, 6, 6, 6, 6, 6, 6, 6, 6, 6, 7, 7, 7, 7, 7, 7, 7, 7, 7, 7, 7, 7, 7, 7, 7, 7, 7, 7, 7, 7, 7, 7, 7, 7, 7, 7, 7, 7, 7, 7, 7, 7, 7, 7, 7, 7, 7, 7, 7, 7, 7, 7, 7, 7, 7, 7, 7, 7, 7, 7, 7, 7, 7, 7, 7, 7, 7, 7, 7, 7, 7, 7, 7, 7, 8, 8, 8, 8, 8, 8, 8, 8, 8, 8, 8, 8, 8, 8, 8, 8, 8, 8, 8, 8, 8, 8, 8, 8, 8, 8, 8, 8, 8, 8, 8, 8, 8, 8, 8, 8, 8, 8, 8, 8, 8, 8, 8, 8, 8, 8, 8, 8, 8, 8, 8, 8, 8, 8, 8, 8, 8, 8, 8, 8, 8, 8, 8, 8, 8, 8, 8, 8, 8, 8, 8, 8, 8, 8, 8, 8, 8, 8, 8, 8, 8, 8, 8, 8, 8, 8, 8, 8, 8, 8, 8, 8, 8, 8, 8, 8, 8, 8, 8, 8, 8, 8, 8, 8, 8, 8, 8, 8, 8, 8, 8, 8, 8, 8, 8, 8, 8, 8, 8, 8, 8, 8, 8, 8, 8, 8, 8, 8]⟩
structure an where
 X0 : Int
 Y0 : Int
 Step : Int
 Width : Int
 Height : Int
 Z : List Int
 deriving Inhabited

structure ai where
 Negative : Bool
 Groups : List Int
 deriving Inhabited

structure ak where
 Num : ai
 Den : ai
 deriving Inhabited

structure al where
 A : Int
 B : Int
 At : ak
 deriving Inhabited

structure ah where
 Closed : Bool
 Points : List al
 deriving Inhabited

structure A2 (α : Type) where
 e0 : α
 e1 : α
 deriving Inhabited, DecidableEq

def av.K (x : A2 Int) : Value := .agg #[.int .i64 x.e0, .int .i64 x.e1]
theorem av.key : Am av.K := fun ⟨a0, a1⟩ ⟨b0, b1⟩ => by
 have h : ((⟨a0, a1⟩ : A2 Int) == ⟨b0, b1⟩) = (a0 == b0 && (a1 == b1 && true)) := by rw [Bool.eq_iff_iff]; simp
 show some _ = some _
 rw [h]

def aj.c (x : A2 Int) : List AV := [.at (.int .i64 x.e0), .at (.int .i64 x.e1)]
theorem aj.len : ∀ x, (aj.c x).length = 2 := fun _ => rfl
theorem aj.pure : ∀ x, dZ (aj.c x) = [] := fun _ => rfl

structure A3 (α : Type) where
 e0 : α
 e1 : α
 e2 : α
 deriving Inhabited

def aC.c (x : A3 Int) : List AV := [.at (.int .i64 x.e0), .at (.int .i64 x.e1), .at (.int .i64 x.e2)]
theorem aC.len : ∀ x, (aC.c x).length = 3 := fun _ => rfl
theorem aC.pure : ∀ x, dZ (aC.c x) = [] := fun _ => rfl

def A3.get (x : A3 Int) (j : Int) : Int := gt [x.e0, x.e1, x.e2] j
def A3.put (x : A3 Int) (j v : Int) : A3 Int := ⟨if j.toNat = 0 then v else x.e0, if j.toNat = 1 then v else x.e1, if j.toNat = 2 then v else x.e2⟩
theorem A3.CO {k : IntKind} (x : A3 Int) {j : Int} (v : Int) (h : inR j 3 = true) : setCells [.at (.int k x.e0), .at (.int k x.e1), .at (.int k x.e2)] j.toNat [.at (.int k v)] = [.at (.int k (x.put j v).e0), .at (.int k (x.put j v).e1), .at (.int k (x.put j v).e2)] := by
 have h1 := aD h
 have hj : j.toNat = 0 \/ j.toNat = 1 \/ j.toNat = 2 := by omega
 unfold A3.put
 rcases hj with e | e | e <;> simp only [e] <;> rfl

def al.c (x : al) : List AV := [.at (.int .i64 x.A), .at (.int .i64 x.B), .at (.bool x.At.Num.Negative), slT (iC .u32) x.At.Num.Groups, .at (.bool x.At.Den.Negative), slT (iC .u32) x.At.Den.Groups]
theorem al.len : ∀ x, (al.c x).length = 6 := fun _ => rfl
theorem al.pure : ∀ x, dZ (al.c x) = [] := fun _ => rfl

def ah.c (x : ah) : List AV := [.at (.bool x.Closed), slT al.c x.Points]
theorem ah.len : ∀ x, (ah.c x).length = 2 := fun _ => rfl
theorem ah.pure : ∀ x, dZ (ah.c x) = [] := fun _ => rfl

theorem al.inj : ∀ x y, al.c x = al.c y -> x = y := by
 rintro ⟨_, _, ⟨⟨_, _⟩, ⟨_, _⟩⟩⟩ ⟨_, _, ⟨⟨_, _⟩, ⟨_, _⟩⟩⟩ h
 simp only [al.c, List.cons.injEq, AV.at.injEq, Value.int.injEq, Value.bool.injEq, true_and, and_true, eU] at h
 simp_all

structure az where
 X : ak
 Y : ak
 deriving Inhabited

def az.c (x : az) : List AV := [.at (.bool x.X.Num.Negative), slT (iC .u32) x.X.Num.Groups, .at (.bool x.X.Den.Negative), slT (iC .u32) x.X.Den.Groups, .at (.bool x.Y.Num.Negative), slT (iC .u32) x.Y.Num.Groups, .at (.bool x.Y.Den.Negative), slT (iC .u32) x.Y.Den.Groups]
theorem az.len : ∀ x, (az.c x).length = 8 := fun _ => rfl
theorem az.pure : ∀ x, dZ (az.c x) = [] := fun _ => rfl

def an.c (x : an) : List AV := [.at (.int .i64 x.X0), .at (.int .i64 x.Y0), .at (.int .i64 x.Step), .at (.int .i64 x.Width), .at (.int .i64 x.Height), slT (iC .i64) x.Z]
theorem an.len : ∀ x, (an.c x).length = 6 := fun _ => rfl
theorem an.pure : ∀ x, dZ (an.c x) = [] := fun _ => rfl

def ak.c (x : ak) : List AV := [.at (.bool x.Num.Negative), slT (iC .u32) x.Num.Groups, .at (.bool x.Den.Negative), slT (iC .u32) x.Den.Groups]
theorem ak.len : ∀ x, (ak.c x).length = 4 := fun _ => rfl
theorem ak.pure : ∀ x, dZ (ak.c x) = [] := fun _ => rfl

def ai.c (x : ai) : List AV := [.at (.bool x.Negative), slT (iC .u32) x.Groups]
theorem ai.len : ∀ x, (ai.c x).length = 2 := fun _ => rfl
theorem ai.pure : ∀ x, dZ (ai.c x) = [] := fun _ => rfl

def dC (n : Nat) : Option (an) :=
 some (an.mk 0 0 2 3 3 [(0 : Int), (0 : Int), (0 : Int), (0 : Int), (4 : Int), (0 : Int), (0 : Int), (0 : Int), (0 : Int)])

def fq (n : Nat) (n' : Int) : Option (Bool) :=
 cdO (decide (n' >= 2)) (
 some (decide (n' <= 64))
 ) (
 some (false)
 )

def iT (n : Nat) (n' : Int) : Option (Bool) :=
 cdO (decide (n' < (-1048576))) (
 some (true)
 ) (
 some (decide (n' > 1048576))
 )

def jj (n : Nat) (z : Int) : Option (Bool) :=
 cdO ((z : Int) != (-2147483648)) (
 bdO (iT n z) fun v2 => (
 some (v2)
 )
 ) (
 some (false)
 )

def cr (n : Nat) (s : List Int) : Option (Int) :=
 bdO (aO (α := Int) (β := Sum (Unit) (Int)) n (fun again7 x_1 => (
 cdO (decide (x_1 < (s.length : Int))) (
 gdO (inR x_1 s.length) (
 bdO (jj n (gt s x_1)) fun v10 => (
 cdO v10 (
 some (Sum.inr (x_1))
 ) (
 again7 (CT (x_1 + 1))
 )
 )
 )
 ) (
 some (Sum.inl ())
 )
 )) 0) fun o13 => (
 match o13 with
 | .inl _ => (
 some ((-1))
 )
 | .inr (r0) => (
 some r0
 ))

def bz (n : Nat) (s : List Int) : Option (Bool) :=
 bdO (cr n s) fun v1 => (
 some (decide (v1 >= 0))
 )

def iy (n : Nat) (g : an) : Option (Int) :=
 bdO (fq n g.Width) fun v1 => (
 cdO (!v1) (
 some (2)
 ) (
 bdO (fq n g.Height) fun v4 => (
 cdO (!v4) (
 some (2)
 ) (
 cdO (decide (g.Step < 2)) (
 some (2)
 ) (
 cdO (decide (g.Step > 65536)) (
 some (2)
 ) (
 cdO (((g.Step.tmod 2) : Int) != 0) (
 some (2)
 ) (
 bdO (iT n g.X0) fun v10 => (
 cdO v10 (
 some (2)
 ) (
 bdO (iT n g.Y0) fun v13 => (
 cdO v13 (
 some (2)
 ) (
 cdO (((g.Z.length : Int) : Int) != (CT (g.Width * g.Height))) (
 some (4)
 ) (
 bdO (bz n g.Z) fun v17 => (
 cdO v17 (
 some (2)
 ) (
 some (0)
 )
 )
 )
 )
 )
 )
 )
 )
 )
 )
 )
 )
 )
 )

def gF (n : Nat) (g : an) (level : Int) : Option (Int) :=
 bdO (iy n g) fun v1 => (
 cdO ((v1 : Int) != 0) (
 some (v1)
 ) (
 cdO (((level.tmod 2) : Int) == 0) (
 some (1)
 ) (
 cdO (decide (level < (-2097153))) (
 some (2)
 ) (
 cdO (decide (level > 2097153)) (
 some (2)
 ) (
 some (0)
 )
 )
 )
 )
 )

def dT (n : Nat) (k : Int) (p : Int) (p' : Int) (p'' : Int) (cU : Int) (bx : Int) (aP : List Int) (aR : Int) : Option (Bool) :=
 gdO (inR k aP.length) (
 some (decide ((CT (2 * (gt aP k))) > aR))
 )

def jE (n : Nat) (a : Int) (b : Int) : Option (A2 Int) :=
 some (A2.mk (mn a b) (mx a b))

def kJ (n : Nat) (t : A3 Int) (c : Int) (c' : Int) (c'' : Int) (c8 : Int) (bH : Int) (bg : List Int) (aW : Int) (p : List (A2 Int × A2 Int)) (p' : List (A2 Int × Bool)) : Option (List (A2 Int × A2 Int) × List (A2 Int × Bool)) :=
 bdO (aO (α := Int × Int × Int × Int × Bool × Int) (β := Int × Int × Int × Int × Bool) n (fun again114 (f_75, f_76, t_77, t_78, c_79, x_80) => (
 cdO (decide (x_80 < 3)) (
 gdO (inR x_80 3) (
 gdO (inR ((CT (x_80 + 1)).tmod 3) 3) (
 bdO (dT n (A3.get t x_80) c c' c'' c8 bH bg aW) fun v119 => (
 cdO v119 (
 bdO (dT n (A3.get t ((CT (x_80 + 1)).tmod 3)) c c' c'' c8 bH bg aW) fun v122 => (
 cdO (!v122) (
 bdO (jE n (A3.get t x_80) (A3.get t ((CT (x_80 + 1)).tmod 3))) fun v125 => (
 again114 (v125.e0, v125.e1, t_77, t_78, true, CT (x_80 + 1))
 )
 ) (
 bdO (dT n (A3.get t x_80) c c' c'' c8 bH bg aW) fun v127 => (
 cdO (!v127) (
 bdO (dT n (A3.get t ((CT (x_80 + 1)).tmod 3)) c c' c'' c8 bH bg aW) fun v130 => (
 cdO v130 (
 bdO (jE n (A3.get t x_80) (A3.get t ((CT (x_80 + 1)).tmod 3))) fun v133 => (
 again114 (f_75, f_76, v133.e0, v133.e1, c_79, CT (x_80 + 1))
 )
 ) (
 again114 (f_75, f_76, t_77, t_78, c_79, CT (x_80 + 1))
 )
 )
 ) (
 again114 (f_75, f_76, t_77, t_78, c_79, CT (x_80 + 1))
 )
 )
 )
 )
 ) (
 bdO (dT n (A3.get t x_80) c c' c'' c8 bH bg aW) fun v135 => (
 cdO (!v135) (
 bdO (dT n (A3.get t ((CT (x_80 + 1)).tmod 3)) c c' c'' c8 bH bg aW) fun v138 => (
 cdO v138 (
 bdO (jE n (A3.get t x_80) (A3.get t ((CT (x_80 + 1)).tmod 3))) fun v141 => (
 again114 (f_75, f_76, v141.e0, v141.e1, c_79, CT (x_80 + 1))
 )
 ) (
 again114 (f_75, f_76, t_77, t_78, c_79, CT (x_80 + 1))
 )
 )
 ) (
 again114 (f_75, f_76, t_77, t_78, c_79, CT (x_80 + 1))
 )
 )
 )
 )
 )
 )
 ) (
 some ((f_75, f_76, t_77, t_78, c_79))
 )
 )) (0, 0, 0, 0, false, 0)) fun o143 => (
 match o143 with
 | (f_109, f_110, t_111, t_112, c_113) => (
 cdO c_113 (
 some ((j7 p (A2.mk f_109 f_110) (A2.mk t_111 t_112), j7 p' (A2.mk t_111 t_112) true))
 ) (
 some ((p, p'))
 )
 ))

def bl (n : Nat) (g : an) (c : Int) (c' : Int) (c'' : Int) (c8 : Int) (bH : Int) (bg : List Int) (aW : Int) (jg : List (A2 Int × A2 Int)) (gP : List (A2 Int × Bool)) : Option (List (A2 Int × A2 Int) × List (A2 Int × Bool)) :=
 bdO (aO (α := List (A2 Int × A2 Int) × List (A2 Int × Bool) × Int) (β := List (A2 Int × A2 Int) × List (A2 Int × Bool)) n (fun again272 (c_182, c_183, x_184) => (
 cdO (decide (x_184 < (CT (g.Height - 1)))) (
 bdO (aO (α := List (A2 Int × A2 Int) × List (A2 Int × Bool) × Int) (β := List (A2 Int × A2 Int) × List (A2 Int × Bool)) n (fun again317 (c_275, c_276, x_277) => (
 cdO (decide (x_277 < (CT (g.Width - 1)))) (
 bdO (some (CT ((CT (x_184 * g.Width)) + x_277))) fun w320 => (
 bdO (some [A3.mk w320 (CT (w320 + 1)) (CT ((CT (w320 + g.Width)) + 1)), A3.mk w320 (CT ((CT (w320 + g.Width)) + 1)) (CT (w320 + g.Width))]) fun w322 => (
 bdO (aO (α := List (A2 Int × A2 Int) × List (A2 Int × Bool) × Int) (β := List (A2 Int × A2 Int) × List (A2 Int × Bool)) n (fun again340 (c_324, c_325, x_326) => (
 cdO (decide (x_326 < 2)) (
 gdO (inR x_326 w322.length) (
 gdO (inR (gt w322 x_326).e0 g.Z.length) (
 cdO (((gt g.Z (gt w322 x_326).e0) : Int) != (-2147483648)) (
 gdO (inR (gt w322 x_326).e1 g.Z.length) (
 cdO (((gt g.Z (gt w322 x_326).e1) : Int) != (-2147483648)) (
 gdO (inR (gt w322 x_326).e2 g.Z.length) (
 cdO (((gt g.Z (gt w322 x_326).e2) : Int) != (-2147483648)) (
 bdO (kJ n (gt w322 x_326) c c' c'' c8 bH bg aW c_324 c_325) fun v350 => (
 again340 (v350.1, v350.2, CT (x_326 + 1))
 )
 ) (
 again340 (c_324, c_325, CT (x_326 + 1))
 )
 )
 ) (
 again340 (c_324, c_325, CT (x_326 + 1))
 )
 )
 ) (
 again340 (c_324, c_325, CT (x_326 + 1))
 )
 )
 )
 ) (
 some ((c_324, c_325))
 )
 )) (c_275, c_276, 0)) fun o352 => (
 match o352 with
 | (c_338, c_339) => (
 again317 (c_338, c_339, CT (x_277 + 1))
 ))
 )
 )
 ) (
 some ((c_275, c_276))
 )
 )) (c_182, c_183, 0)) fun o355 => (
 match o355 with
 | (c_315, c_316) => (
 again272 (c_315, c_316, CT (x_184 + 1))
 ))
 ) (
 some ((c_182, c_183))
 )
 )) (jg, gP, 0)) fun o358 => (
 match o358 with
 | (c_270, c_271) => (
 some ((c_270, c_271))
 ))

def mA (n : Nat) (x' : Int) : Option (Int) :=
 cdO (decide (x' >= 4294967296)) (
 cdO (decide ((x'.fdiv (2 ^ 32)) >= 65536)) (
 cdO (decide (((x'.fdiv (2 ^ 32)).fdiv (2 ^ 16)) >= 256)) (
 bdO (some (((x'.fdiv (2 ^ 32)).fdiv (2 ^ 16)).fdiv (2 ^ 8))) fun w4 => (
 gdO (inR (aa .u8 w4) 256) (
 some (CT (56 + (CT (iD gr (aa .u8 w4)))))
 )
 )
 ) (
 gdO (inR (aa .u8 ((x'.fdiv (2 ^ 32)).fdiv (2 ^ 16))) 256) (
 some (CT (48 + (CT (iD gr (aa .u8 ((x'.fdiv (2 ^ 32)).fdiv (2 ^ 16)))))))
 )
 )
 ) (
 cdO (decide ((x'.fdiv (2 ^ 32)) >= 256)) (
 gdO (inR (aa .u8 ((x'.fdiv (2 ^ 32)).fdiv (2 ^ 8))) 256) (
 some (CT (40 + (CT (iD gr (aa .u8 ((x'.fdiv (2 ^ 32)).fdiv (2 ^ 8)))))))
 )
 ) (
 gdO (inR (aa .u8 (x'.fdiv (2 ^ 32))) 256) (
 some (CT (32 + (CT (iD gr (aa .u8 (x'.fdiv (2 ^ 32)))))))
 )
 )
 )
 ) (
 cdO (decide (x' >= 65536)) (
 cdO (decide ((x'.fdiv (2 ^ 16)) >= 256)) (
 gdO (inR (aa .u8 ((x'.fdiv (2 ^ 16)).fdiv (2 ^ 8))) 256) (
 some (CT (24 + (CT (iD gr (aa .u8 ((x'.fdiv (2 ^ 16)).fdiv (2 ^ 8)))))))
 )
 ) (
 gdO (inR (aa .u8 (x'.fdiv (2 ^ 16))) 256) (
 some (CT (16 + (CT (iD gr (aa .u8 (x'.fdiv (2 ^ 16)))))))
 )
 )
 ) (
 cdO (decide (x' >= 256)) (
 gdO (inR (aa .u8 (x'.fdiv (2 ^ 8))) 256) (
 some (CT (8 + (CT (iD gr (aa .u8 (x'.fdiv (2 ^ 8)))))))
 )
 ) (
 gdO (inR (aa .u8 x') 256) (
 some (CT (0 + (CT (iD gr (aa .u8 x')))))
 )
 )
 )
 )

def j2 (n : Nat) (x' : Int) : Option (Int) :=
 bdO (mA n x') fun v1 => (
 some (v1)
 )

def gV (n : Nat) (a : A2 Int) (b : A2 Int) : Option (Int) :=
 cdO ((a.e0 : Int) != b.e0) (
 some (CT (a.e0 - b.e0))
 ) (
 some (CT (a.e1 - b.e1))
 )

def br (n : Nat) (data : List (A2 Int)) (a : Int) (b : Int) : Option (List (A2 Int)) :=
 bdO (aO (α := List (A2 Int) × Int) (β := List (A2 Int)) n (fun again72 (d_49, i_50) => (
 cdO (decide (i_50 < b)) (
 bdO (aO (α := List (A2 Int) × Int) (β := List (A2 Int)) n (fun again83 (d_74, j_75) => (
 cdO (decide (j_75 > a)) (
 gdO (inR j_75 d_74.length) (
 gdO (inR (CT (j_75 - 1)) d_74.length) (
 bdO (gV n (gt d_74 j_75) (gt d_74 (CT (j_75 - 1)))) fun v87 => (
 cdO (decide (v87 < 0)) (
 again83 ((d_74.set j_75.toNat (gt d_74 (CT (j_75 - 1)))).set (CT (j_75 - 1)).toNat (gt d_74 j_75), CT (j_75 - 1))
 ) (
 some (d_74)
 )
 )
 )
 )
 ) (
 some (d_74)
 )
 )) (d_49, i_50)) fun d_82 => (
 again72 (d_82, CT (i_50 + 1))
 )
 ) (
 some (d_49)
 )
 )) (data, CT (a + 1))) fun d_71 => (
 some (d_71)
 )

def bL (n : Nat) (data : List (A2 Int)) (a : Int) (b : Int) (limit : Int) : Option (List (A2 Int)) :=
 bdO (aO (α := Int × Int × Int × Bool × Bool) (β := List (A2 Int)) n (fun again31 (a_21, b_22, l_23, w_24, w_25) => (
 gdO ((decide ((CT (b_22 - a_21)) <= 12))) (
 bdO (br n data a_21 b_22) fun v33 => (
 some (v33)
 )
 )
 )) (a, b, limit, true, true)) fun r0 => (
 some r0
 )

def aM (n : Nat) (x' : List (A2 Int)) : Option (List (A2 Int)) :=
 bdO (j2 n (aa .u64 (x'.length : Int))) fun v6 => (
 bdO (bL n x' 0 (x'.length : Int) v6) fun v8 => (
 some (v8)
 )
 )

def dc (n : Nat) (n' : Int) : Option (List Int) :=
 bdO (aO (α := Int × List Int) (β := List Int) n (fun again7 (n_1, g_2) => (
 cdO (decide (n_1 > 0)) (
 gdO (decide ((g_2.length + 1) * 4 <= 140737488355328)) (
 gdO (decide (g_2.length + 1 <= 4611686018427387904)) (
 again7 (aa .u64 (n_1.tdiv 1000000000), g_2 ++ [aa .u32 (n_1.tmod 1000000000)])
 )
 )
 ) (
 some (g_2)
 )
 )) (n', [])) fun g_6 => (
 some (g_6)
 )

def eJ (n : Nat) (g : List Int) : Option (List Int) :=
 bdO (aO (α := List Int) (β := List Int) n (fun again7 g_1 => (
 cdO (decide ((g_1.length : Int) > 0)) (
 gdO (inR (CT ((g_1.length : Int) - 1)) g_1.length) (
 cdO (((gt g_1 (CT ((g_1.length : Int) - 1))) : Int) == 0) (
 gdO (inS 0 (CT ((g_1.length : Int) - 1)) g_1.length) (
 again7 ((g_1.drop (0 : Int).toNat).take ((CT ((g_1.length : Int) - 1)).toNat - (0 : Int).toNat))
 )
 ) (
 some (g_1)
 )
 )
 ) (
 some (g_1)
 )
 )) g) fun g_6 => (
 some (g_6)
 )

def cg (n : Nat) (negative : Bool) (g : List Int) : Option (ai) :=
 bdO (eJ n g) fun v1 => (
 cdO (((v1.length : Int) : Int) == 0) (
 some (ai.mk false [])
 ) (
 some (ai.mk negative v1)
 )
 )

def fv (n : Nat) (n' : Int) : Option (ai) :=
 cdO (decide (n' < 0)) (
 bdO (dc n (aa .u64 (0 - (aa .u64 n')))) fun v2 => (
 bdO (cg n true v2) fun v4 => (
 some (v4)
 )
 )
 ) (
 bdO (dc n (aa .u64 n')) fun v6 => (
 bdO (cg n false v6) fun v8 => (
 some (v8)
 )
 )
 )

def mw (n : Nat) (g : Int) : Option (Bool) :=
 some (decide (g >= 1000000000))

def bm (n : Nat) (s : List Int) : Option (Int) :=
 bdO (aO (α := Int) (β := Sum (Unit) (Int)) n (fun again7 x_1 => (
 cdO (decide (x_1 < (s.length : Int))) (
 gdO (inR x_1 s.length) (
 bdO (mw n (gt s x_1)) fun v10 => (
 cdO v10 (
 some (Sum.inr (x_1))
 ) (
 again7 (CT (x_1 + 1))
 )
 )
 )
 ) (
 some (Sum.inl ())
 )
 )) 0) fun o13 => (
 match o13 with
 | .inl _ => (
 some ((-1))
 )
 | .inr (r0) => (
 some r0
 ))

def aY (n : Nat) (s : List Int) : Option (Bool) :=
 bdO (bm n s) fun v1 => (
 some (decide (v1 >= 0))
 )

def dU (n : Nat) (x' : ai) : Option (Bool) :=
 cdO (((x'.Groups.length : Int) : Int) == 0) (
 some (!x'.Negative)
 ) (
 gdO (inR (CT ((x'.Groups.length : Int) - 1)) x'.Groups.length) (
 cdO (((gt x'.Groups (CT ((x'.Groups.length : Int) - 1))) : Int) != 0) (
 bdO (aY n x'.Groups) fun v4 => (
 some (!v4)
 )
 ) (
 some (false)
 )
 )
 )

def gu (n : Nat) (n' : ai) : Option (ai) :=
 bdO (dU n n') fun v1 => (
 cdO v1 (
 some (n')
 ) (
 bdO (fv n 0) fun v4 => (
 some (v4)
 )
 )
 )

def bX (n : Nat) (x' : ai) : Option (List Int) :=
 bdO (dU n x') fun v1 => (
 cdO (!v1) (
 some ([])
 ) (
 some (x'.Groups)
 )
 )

def dr (n : Nat) (x' : ai) : Option (Int) :=
 bdO (bX n x') fun v1 => (
 cdO (((v1.length : Int) : Int) == 0) (
 some (0)
 ) (
 cdO x'.Negative (
 some ((-1))
 ) (
 some (1)
 )
 )
 )

def cH (n : Nat) (s : List Int) : Option (List Int) :=
 gdO (decide ((0 + s.length) * 4 <= 140737488355328)) (
 gdO (decide (0 + s.length <= 4611686018427387904)) (
 some (s)
 )
 )

def eQ (n : Nat) (x' : ai) : Option (ai) :=
 bdO (bX n x') fun v1 => (
 bdO (cH n v1) fun v3 => (
 bdO (cg n (!x'.Negative) v3) fun v5 => (
 some (v5)
 )
 )
 )




def jl (n : Nat) (a : List Int) (b : List Int) : Option (List Int) :=
 gdO (decide (0 <= CT ((a.length : Int) + (b.length : Int)))) (
 gdO (decide ((4 : Int) * (CT ((a.length : Int) + (b.length : Int))) <= 281474976710656)) (
 gdO (decide (CT ((a.length : Int) + (b.length : Int)) <= 9223372036854775807)) (
 bdO (aO (α := List Int × Int) (β := List Int) n (fun again25 (o_4, x_5) => (
 cdO (decide (x_5 < (a.length : Int))) (
 gdO (inR x_5 a.length) (
 bdO (aO (α := List Int × Int × Int) (β := List Int × Int) n (fun again36 (o_28, c_29, x_30) => (
 cdO (decide (x_30 < (b.length : Int))) (
 gdO (inR x_30 b.length) (
 gdO (inR (CT (x_5 + x_30)) o_28.length) (
 again36 (o_28.set (CT (x_5 + x_30)).toNat (aa .u32 ((aa .u64 ((aa .u64 ((aa .u64 (gt o_28 (CT (x_5 + x_30)))) + (aa .u64 ((aa .u64 (gt a x_5)) * (aa .u64 (gt b x_30)))))) + c_29)).tmod 1000000000)), aa .u64 ((aa .u64 ((aa .u64 ((aa .u64 (gt o_28 (CT (x_5 + x_30)))) + (aa .u64 ((aa .u64 (gt a x_5)) * (aa .u64 (gt b x_30)))))) + c_29)).tdiv 1000000000), CT (x_30 + 1))
 )
 )
 ) (
 some ((o_28, c_29))
 )
 )) (o_4, 0, 0)) fun o40 => (
 match o40 with
 | (o_34, c_35) => (
 gdO (inR (CT (x_5 + (b.length : Int))) o_34.length) (
 again25 (o_34.set (CT (x_5 + (b.length : Int))).toNat (aa .u32 c_35), CT (x_5 + 1))
 )
 ))
 )
 ) (
 some (o_4)
 )
 )) (List.replicate (CT ((a.length : Int) + (b.length : Int))).toNat ((0 : Int) : Int), 0)) fun o_24 => (
 bdO (eJ n o_24) fun v47 => (
 some (v47)
 )
 )
 )
 )
 )

def mZ (n : Nat) (g : List Int) : Option (List Int) :=
 bdO (aO (α := List Int) (β := List Int) n (fun again22 g_16 => (
 cdO (decide ((g_16.length : Int) > 0)) (
 gdO (inR (CT ((g_16.length : Int) - 1)) g_16.length) (
 cdO (((gt g_16 (CT ((g_16.length : Int) - 1))) : Int) == 0) (
 gdO (inS 0 (CT ((g_16.length : Int) - 1)) g_16.length) (
 again22 (g_16.take (CT ((g_16.length : Int) - 1)).toNat)
 )
 ) (
 some (g_16)
 )
 )
 ) (
 some (g_16)
 )
 )) g) fun g_21 => (
 some (g_21)
 )

def jh (n : Nat) (a : List Int) (b : List Int) : Option (List Int) :=
 gdO (decide (0 <= CT ((a.length : Int) + (b.length : Int)))) (
 gdO (decide ((4 : Int) * (CT ((a.length : Int) + (b.length : Int))) <= 281474976710656)) (
 gdO (decide (CT ((a.length : Int) + (b.length : Int)) <= 9223372036854775807)) (
 bdO (aO (α := List Int × Int) (β := List Int) n (fun again74 (o_53, x_54) => (
 cdO (decide (x_54 < (a.length : Int))) (
 gdO (inR x_54 a.length) (
 bdO (aO (α := List Int × Int × Int) (β := List Int × Int) n (fun again85 (o_77, c_78, x_79) => (
 cdO (decide (x_79 < (b.length : Int))) (
 gdO (inR x_79 b.length) (
 gdO (inR (CT (x_54 + x_79)) o_77.length) (
 again85 (o_77.set (CT (x_54 + x_79)).toNat (aa .u32 ((aa .u64 ((aa .u64 ((aa .u64 (gt o_77 (CT (x_54 + x_79)))) + (aa .u64 ((aa .u64 (gt a x_54)) * (aa .u64 (gt b x_79)))))) + c_78)).tmod 1000000000)), aa .u64 ((aa .u64 ((aa .u64 ((aa .u64 (gt o_77 (CT (x_54 + x_79)))) + (aa .u64 ((aa .u64 (gt a x_54)) * (aa .u64 (gt b x_79)))))) + c_78)).tdiv 1000000000), CT (x_79 + 1))
 )
 )
 ) (
 some ((o_77, c_78))
 )
 )) (o_53, 0, 0)) fun o89 => (
 match o89 with
 | (o_83, c_84) => (
 gdO (inR (CT (x_54 + (b.length : Int))) o_83.length) (
 again74 (o_83.set (CT (x_54 + (b.length : Int))).toNat (aa .u32 c_84), CT (x_54 + 1))
 )
 ))
 )
 ) (
 some (o_53)
 )
 )) (List.replicate (CT ((a.length : Int) + (b.length : Int))).toNat ((0 : Int) : Int), 0)) fun o_73 => (
 bdO (mZ n o_73) fun v96 => (
 some (v96)
 )
 )
 )
 )
 )

def gx (n : Nat) (g : List Int) (i : Int) : Option (Int) :=
 cdO (decide (i < (g.length : Int))) (
 gdO (inR i g.length) (
 some ((gt g i))
 )
 ) (
 some (0)
 )

def iV (n : Nat) (a : List Int) (b : List Int) : Option (List Int × List Int) :=
 gdO (inR (CT ((b.length : Int) - 1)) b.length) (
 gdO (!decide (aa .u64 ((aa .u64 (gt b (CT ((b.length : Int) - 1)))) + 1) = 0)) (
 bdO (jh n a [aa .u32 (aa .u64 ((1000000000 : Int).tdiv (aa .u64 ((aa .u64 (gt b (CT ((b.length : Int) - 1)))) + 1))))]) fun v3 => (
 bdO (jh n b [aa .u32 (aa .u64 ((1000000000 : Int).tdiv (aa .u64 ((aa .u64 (gt b (CT ((b.length : Int) - 1)))) + 1))))]) fun v5 => (
 gdO (decide ((v3.length + 1) * 4 <= 140737488355328)) (
 gdO (decide (v3.length + 1 <= 4611686018427387904)) (
 bdO (α := List Int) (
 cdO (decide (((v3 ++ [(0 : Int)]).length : Int) <= (a.length : Int))) (
 gdO (decide (((v3 ++ [(0 : Int)]).length + 1) * 4 <= 140737488355328)) (
 gdO (decide ((v3 ++ [(0 : Int)]).length + 1 <= 4611686018427387904)) (
 some ((v3 ++ [(0 : Int)]) ++ [(0 : Int)])
 )
 )
 ) (
 some (v3 ++ [(0 : Int)])
 )
 ) fun u_9 => (
 gdO (decide (0 <= CT ((u_9.length : Int) - (v5.length : Int)))) (
 gdO (decide ((4 : Int) * (CT ((u_9.length : Int) - (v5.length : Int))) <= 281474976710656)) (
 gdO (decide (CT ((u_9.length : Int) - (v5.length : Int)) <= 9223372036854775807)) (
 bdO (aO (α := List Int × List Int × Int) (β := List Int × List Int) n (fun again129 (q_19, u_20, j_21) => (
 cdO (decide (j_21 >= 0)) (
 bdO (gx n u_20 (CT (j_21 + (v5.length : Int)))) fun v132 => (
 gdO (inR (CT ((CT (j_21 + (v5.length : Int))) - 1)) u_20.length) (
 gdO (inR (CT ((v5.length : Int) - 1)) v5.length) (
 gdO (!decide (aa .u64 (gt v5 (CT ((v5.length : Int) - 1))) = 0)) (
 bdO (aO (α := Int × Int) (β := Int) n (fun again165 (g_156, r_157) => (
 cdO (decide (g_156 >= 1000000000)) (
 cdO (decide ((aa .u64 (r_157 + (aa .u64 (gt v5 (CT ((v5.length : Int) - 1)))))) >= 1000000000)) (
 some (aa .u64 (g_156 - 1))
 ) (
 again165 (aa .u64 (g_156 - 1), aa .u64 (r_157 + (aa .u64 (gt v5 (CT ((v5.length : Int) - 1))))))
 )
 ) (
 gdO (inR (CT ((v5.length : Int) - 2)) v5.length) (
 gdO (inR (CT ((CT (j_21 + (v5.length : Int))) - 2)) u_20.length) (
 cdO (decide ((aa .u64 (g_156 * (aa .u64 (gt v5 (CT ((v5.length : Int) - 2)))))) > (aa .u64 ((aa .u64 (r_157 * 1000000000)) + (aa .u64 (gt u_20 (CT ((CT (j_21 + (v5.length : Int))) - 2)))))))) (
 cdO (decide ((aa .u64 (r_157 + (aa .u64 (gt v5 (CT ((v5.length : Int) - 1)))))) >= 1000000000)) (
 some (aa .u64 (g_156 - 1))
 ) (
 again165 (aa .u64 (g_156 - 1), aa .u64 (r_157 + (aa .u64 (gt v5 (CT ((v5.length : Int) - 1))))))
 )
 ) (
 some (g_156)
 )
 )
 )
 )
 )) (aa .u64 ((aa .u64 ((aa .u64 ((aa .u64 v132) * 1000000000)) + (aa .u64 (gt u_20 (CT ((CT (j_21 + (v5.length : Int))) - 1)))))).tdiv (aa .u64 (gt v5 (CT ((v5.length : Int) - 1))))), (aa .u64 ((aa .u64 ((aa .u64 v132) * 1000000000)) + (aa .u64 (gt u_20 (CT ((CT (j_21 + (v5.length : Int))) - 1)))))).tmod (aa .u64 (gt v5 (CT ((v5.length : Int) - 1)))))) fun g_164 => (
 bdO (aO (α := List Int × Int × Int × Int) (β := List Int × Int × Int) n (fun again205 (u_194, b_195, c_196, x_197) => (
 cdO (decide (x_197 < (v5.length : Int))) (
 gdO (inR x_197 v5.length) (
 gdO (inR (CT (x_197 + j_21)) u_194.length) (
 cdO (decide ((CT ((CT ((CT (gt u_194 (CT (x_197 + j_21)))) - b_195)) - (CT ((aa .u64 ((aa .u64 (g_164 * (aa .u64 (gt v5 x_197)))) + c_196)).tmod 1000000000)))) < 0)) (
 again205 (u_194.set (CT (x_197 + j_21)).toNat (aa .u32 (CT ((CT ((CT ((CT (gt u_194 (CT (x_197 + j_21)))) - b_195)) - (CT ((aa .u64 ((aa .u64 (g_164 * (aa .u64 (gt v5 x_197)))) + c_196)).tmod 1000000000)))) + 1000000000))), 1, aa .u64 ((aa .u64 ((aa .u64 (g_164 * (aa .u64 (gt v5 x_197)))) + c_196)).tdiv 1000000000), CT (x_197 + 1))
 ) (
 again205 (u_194.set (CT (x_197 + j_21)).toNat (aa .u32 (CT ((CT ((CT (gt u_194 (CT (x_197 + j_21)))) - b_195)) - (CT ((aa .u64 ((aa .u64 (g_164 * (aa .u64 (gt v5 x_197)))) + c_196)).tmod 1000000000))))), 0, aa .u64 ((aa .u64 ((aa .u64 (g_164 * (aa .u64 (gt v5 x_197)))) + c_196)).tdiv 1000000000), CT (x_197 + 1))
 )
 )
 )
 ) (
 some ((u_194, b_195, c_196))
 )
 )) (u_20, 0, 0, 0)) fun o210 => (
 match o210 with
 | (u_202, b_203, c_204) => (
 gdO (inR (CT (j_21 + (v5.length : Int))) u_202.length) (
 cdO (decide ((CT ((CT ((CT (gt u_202 (CT (j_21 + (v5.length : Int))))) - b_203)) - (CT c_204))) < 0)) (
 bdO (aO (α := List Int × Int × Int) (β := List Int × Int) n (fun again224 (u_215, c_216, x_217) => (
 cdO (decide (x_217 < (v5.length : Int))) (
 gdO (inR (CT (x_217 + j_21)) u_215.length) (
 gdO (inR x_217 v5.length) (
 cdO (decide ((aa .u32 ((aa .u32 ((gt u_215 (CT (x_217 + j_21))) + (gt v5 x_217))) + c_216)) >= 1000000000)) (
 again224 (u_215.set (CT (x_217 + j_21)).toNat (aa .u32 ((aa .u32 ((aa .u32 ((gt u_215 (CT (x_217 + j_21))) + (gt v5 x_217))) + c_216)) - 1000000000)), 1, CT (x_217 + 1))
 ) (
 again224 (u_215.set (CT (x_217 + j_21)).toNat (aa .u32 ((aa .u32 ((gt u_215 (CT (x_217 + j_21))) + (gt v5 x_217))) + c_216)), 0, CT (x_217 + 1))
 )
 )
 )
 ) (
 some ((u_215, c_216))
 )
 )) (u_202.set (CT (j_21 + (v5.length : Int))).toNat (aa .u32 (CT ((CT ((CT ((CT (gt u_202 (CT (j_21 + (v5.length : Int))))) - b_203)) - (CT c_204))) + 1000000000))), 0, 0)) fun o229 => (
 match o229 with
 | (u_222, c_223) => (
 gdO (inR (CT (j_21 + (v5.length : Int))) u_222.length) (
 gdO (inR j_21 q_19.length) (
 again129 (q_19.set j_21.toNat (aa .u32 (aa .u64 (g_164 - 1))), u_222.set (CT (j_21 + (v5.length : Int))).toNat ((aa .u32 ((gt u_222 (CT (j_21 + (v5.length : Int)))) + c_223)).tmod 1000000000), CT (j_21 - 1))
 )
 )
 ))
 ) (
 gdO (inR j_21 q_19.length) (
 again129 (q_19.set j_21.toNat (aa .u32 g_164), u_202.set (CT (j_21 + (v5.length : Int))).toNat (aa .u32 (CT ((CT ((CT (gt u_202 (CT (j_21 + (v5.length : Int))))) - b_203)) - (CT c_204)))), CT (j_21 - 1))
 )
 )
 )
 ))
 )
 )
 )
 )
 )
 ) (
 some ((q_19, u_20))
 )
 )) (List.replicate (CT ((u_9.length : Int) - (v5.length : Int))).toNat ((0 : Int) : Int), u_9, CT ((CT ((u_9.length : Int) - (v5.length : Int))) - 1))) fun o235 => (
 match o235 with
 | (q_127, u_128) => (
 gdO (inS 0 (v5.length : Int) u_128.length) (
 bdO (eJ n (u_128.take (v5.length : Int).toNat)) fun v239 => (
 bdO (fD n v239 (aa .u32 (aa .u64 ((1000000000 : Int).tdiv (aa .u64 ((aa .u64 (gt b (CT ((b.length : Int) - 1)))) + 1)))))) fun v241 => (
 bdO (eJ n q_127) fun v243 => (
 some ((v243, v241.1))
 )
 )
 )
 )
 ))
 )
 )
 )
 )
 )
 )
 )
 )
 )
 )

def ij (n : Nat) (a : List Int) (b : List Int) : Option (List Int × List Int) :=
 bdO (fX n a b) fun v1 => (
 cdO (decide (v1 < 0)) (
 some (([], a))
 ) (
 bdO (ie n a) fun v4 => (
 bdO (ie n b) fun v6 => (
 cdO v4.2 (
 cdO v6.2 (
 gdO (!decide (v6.1 = 0)) (
 bdO (dc n (aa .u64 (v4.1.tdiv v6.1))) fun v11 => (
 bdO (dc n (v4.1.tmod v6.1)) fun v13 => (
 some ((v11, v13))
 )
 )
 )
 ) (
 cdO (((b.length : Int) : Int) == 1) (
 gdO (inR 0 b.length) (
 bdO (fD n a (gt b 0)) fun v17 => (
 bdO (dc n (aa .u64 v17.2)) fun v19 => (
 some ((v17.1, v19))
 )
 )
 )
 ) (
 bdO (iV n a b) fun v21 => (
 some ((v21.1, v21.2))
 )
 )
 )
 ) (
 cdO (((b.length : Int) : Int) == 1) (
 gdO (inR 0 b.length) (
 bdO (fD n a (gt b 0)) fun v25 => (
 bdO (dc n (aa .u64 v25.2)) fun v27 => (
 some ((v25.1, v27))
 )
 )
 )
 ) (
 bdO (iV n a b) fun v29 => (
 some ((v29.1, v29.2))
 )
 )
 )
 )
 )
 )
 )

def g9 (n : Nat) (x' : ai) (y : ai) : Option (ai) :=
 bdO (bX n x') fun v1 => (
 bdO (bX n y) fun v3 => (
 bdO (aO (α := List Int × List Int) (β := Sum (List Int) (ai)) n (fun again34 (a_5, b_6) => (
 cdO (decide ((b_6.length : Int) > 0)) (
 bdO (ie n a_5) fun v36 => (
 bdO (ie n b_6) fun v38 => (
 cdO v36.2 (
 cdO v38.2 (
 bdO (aO (α := Int × Int) (β := Int) n (fun again47 (m_42, n_43) => (
 cdO (decide (n_43 > 0)) (
 gdO (!decide (n_43 = 0)) (
 again47 (n_43, m_42.tmod n_43)
 )
 ) (
 some (m_42)
 )
 )) (v36.1, v38.1)) fun m_46 => (
 bdO (dc n m_46) fun v53 => (
 bdO (cg n false v53) fun v55 => (
 some (Sum.inr (v55))
 )
 )
 )
 ) (
 bdO (ij n a_5 b_6) fun v57 => (
 again34 (b_6, v57.2)
 )
 )
 ) (
 bdO (ij n a_5 b_6) fun v59 => (
 again34 (b_6, v59.2)
 )
 )
 )
 )
 ) (
 some (Sum.inl a_5)
 )
 )) (v1, v3)) fun o61 => (
 match o61 with
 | .inl a_33 => (
 bdO (cH n a_33) fun v64 => (
 bdO (cg n false v64) fun v66 => (
 some (v66)
 )
 )
 )
 | .inr (r0) => (
 some r0
 ))
 )
 )

def jV (n : Nat) (a : List Int) (b : List Int) : Option (List Int) :=
 gdO (decide (0 <= CT ((mx (a.length : Int) (b.length : Int)) + 1))) (
 gdO (decide ((4 : Int) * (CT ((mx (a.length : Int) (b.length : Int)) + 1)) <= 281474976710656)) (
 gdO (decide (CT ((mx (a.length : Int) (b.length : Int)) + 1) <= 9223372036854775807)) (
 bdO (aO (α := List Int × Int × Int) (β := List Int) n (fun again16 (o_4, c_5, x_6) => (
 cdO (decide (x_6 < ((List.replicate (CT ((mx (a.length : Int) (b.length : Int)) + 1)).toNat ((0 : Int) : Int)).length : Int))) (
 bdO (gx n a x_6) fun v18 => (
 bdO (gx n b x_6) fun v20 => (
 cdO (decide ((aa .u32 ((aa .u32 (v18 + v20)) + c_5)) >= 1000000000)) (
 gdO (inR x_6 o_4.length) (
 again16 (o_4.set x_6.toNat (aa .u32 ((aa .u32 ((aa .u32 (v18 + v20)) + c_5)) - 1000000000)), 1, CT (x_6 + 1))
 )
 ) (
 gdO (inR x_6 o_4.length) (
 again16 (o_4.set x_6.toNat (aa .u32 ((aa .u32 (v18 + v20)) + c_5)), 0, CT (x_6 + 1))
 )
 )
 )
 )
 ) (
 some (o_4)
 )
 )) (List.replicate (CT ((mx (a.length : Int) (b.length : Int)) + 1)).toNat ((0 : Int) : Int), 0, 0)) fun o_15 => (
 bdO (eJ n o_15) fun v28 => (
 some (v28)
 )
 )
 )
 )
 )

def iu (n : Nat) (a : List Int) (b : List Int) : Option (List Int) :=
 gdO (decide (0 <= (a.length : Int))) (
 gdO (decide ((4 : Int) * (a.length : Int) <= 281474976710656)) (
 gdO (decide ((a.length : Int) <= 9223372036854775807)) (
 bdO (aO (α := List Int × Int × Int) (β := List Int) n (fun again15 (o_4, b_5, x_6) => (
 cdO (decide (x_6 < ((List.replicate (a.length : Int).toNat ((0 : Int) : Int)).length : Int))) (
 bdO (gx n b x_6) fun v17 => (
 gdO (inR x_6 a.length) (
 cdO (decide ((gt a x_6) < (aa .u32 (v17 + b_5)))) (
 gdO (inR x_6 o_4.length) (
 again15 (o_4.set x_6.toNat (aa .u32 ((aa .u32 ((gt a x_6) + 1000000000)) - (aa .u32 (v17 + b_5)))), 1, CT (x_6 + 1))
 )
 ) (
 gdO (inR x_6 o_4.length) (
 again15 (o_4.set x_6.toNat (aa .u32 ((gt a x_6) - (aa .u32 (v17 + b_5)))), 0, CT (x_6 + 1))
 )
 )
 )
 )
 ) (
 some (o_4)
 )
 )) (List.replicate (a.length : Int).toNat ((0 : Int) : Int), 0, 0)) fun o_14 => (
 bdO (eJ n o_14) fun v26 => (
 some (v26)
 )
 )
 )
 )
 )

def dR (n : Nat) (x' : ai) (y : ai) : Option (ai × ai × Int) :=
 bdO (bX n x') fun v1 => (
 bdO (bX n y) fun v3 => (
 cdO (((v3.length : Int) : Int) == 0) (
 some ((ai.mk false [], ai.mk false [], 14))
 ) (
 bdO (ij n v1 v3) fun v6 => (
 bdO (cH n v6.2) fun v8 => (
 cdO (decide ((v8.length : Int) > 0)) (
 cdO (x'.Negative != y.Negative) (
 bdO (jV n v6.1 [(1 : Int)]) fun v12 => (
 bdO (iu n v3 v8) fun v14 => (
 bdO (cg n true v12) fun v16 => (
 bdO (cg n y.Negative v14) fun v18 => (
 some ((v16, v18, 0))
 )
 )
 )
 )
 ) (
 bdO (cg n false v6.1) fun v20 => (
 bdO (cg n y.Negative v8) fun v22 => (
 some ((v20, v22, 0))
 )
 )
 )
 ) (
 bdO (cg n (x'.Negative != y.Negative) v6.1) fun v24 => (
 bdO (cg n y.Negative v8) fun v26 => (
 some ((v24, v26, 0))
 )
 )
 )
 )
 )
 )
 )
 )

def eP (n : Nat) (num : ai) (den : ai) : Option (ak) :=
 bdO (dr n den) fun v1 => (
 cdO (decide (v1 < 0)) (
 bdO (eQ n num) fun v4 => (
 bdO (eQ n den) fun v6 => (
 bdO (g9 n v4 v6) fun v8 => (
 bdO (dR n v4 v8) fun v10 => (
 bdO (dR n v6 v8) fun v12 => (
 some (ak.mk v10.1 v12.1)
 )
 )
 )
 )
 )
 ) (
 bdO (g9 n num den) fun v14 => (
 bdO (dR n num v14) fun v16 => (
 bdO (dR n den v14) fun v18 => (
 some (ak.mk v16.1 v18.1)
 )
 )
 )
 )
 )

def oQ (n : Nat) (num : ai) (den : ai) : Option (ak × Int) :=
 bdO (gu n num) fun v1 => (
 bdO (gu n den) fun v3 => (
 bdO (dr n v3) fun v5 => (
 cdO ((v5 : Int) == 0) (
 some ((ak.mk (ai.mk false []) (ai.mk false []), 14))
 ) (
 bdO (eP n v1 v3) fun v8 => (
 some ((v8, 0))
 )
 )
 )
 )
 )

def fJ (n : Nat) (n' : Int) (d : Int) : Option (ak × Int) :=
 bdO (fv n n') fun v1 => (
 bdO (fv n d) fun v3 => (
 bdO (oQ n v1 v3) fun v5 => (
 some ((v5.1, v5.2))
 )
 )
 )

def lO (n : Nat) (g : an) (level : Int) (e : A2 Int) : Option (al) :=
 gdO (inR e.e0 g.Z.length) (
 gdO (inR e.e1 g.Z.length) (
 bdO (fJ n (CT (level - (CT (2 * (gt g.Z e.e0))))) (CT (2 * (CT ((gt g.Z e.e1) - (gt g.Z e.e0)))))) fun v3 => (
 some (al.mk e.e0 e.e1 v3.1)
 )
 )
 )

def fT (n : Nat) (start : A2 Int) (closed : Bool) (p : List (A2 Int × Bool)) (p' : Int) (p'' : Int) (cU : Int) (bx : Int) (aP : Int) (aR : List Int) (aV : Int) (aG : List (A2 Int × A2 Int)) (aE : List ah) : Option (List (A2 Int × Bool) × List ah) :=
 bdO (aO (α := List (A2 Int × Bool) × List al × Int × Int) (β := List (A2 Int × Bool) × List al) n (fun again39 (p_27, c_28, a_29, a_30) => (
 bdO (lO n (an.mk p' p'' cU bx aP aR) aV (A2.mk a_29 a_30)) fun v40 => (
 gdO (decide ((c_28.length + 1) * 80 <= 140737488355328)) (
 gdO (decide (c_28.length + 1 <= 4611686018427387904)) (
 cdO (!(pA aG (A2.mk a_29 a_30))) (
 some ((j7 p_27 (A2.mk a_29 a_30) true, c_28 ++ [v40]))
 ) (
 cdO (getM false (j7 p_27 (A2.mk a_29 a_30) true) (getM (A2.mk 0 0 : A2 Int) aG (A2.mk a_29 a_30))) (
 some ((j7 p_27 (A2.mk a_29 a_30) true, c_28 ++ [v40]))
 ) (
 again39 (j7 p_27 (A2.mk a_29 a_30) true, c_28 ++ [v40], (getM (A2.mk 0 0 : A2 Int) aG (A2.mk a_29 a_30)).e0, (getM (A2.mk 0 0 : A2 Int) aG (A2.mk a_29 a_30)).e1)
 )
 )
 )
 )
 )
 )) (p, [], start.e0, start.e1)) fun o46 => (
 match o46 with
 | (p_37, c_38) => (
 gdO (decide ((aE.length + 1) * 32 <= 140737488355328)) (
 gdO (decide (aE.length + 1 <= 4611686018427387904)) (
 some ((p_37, aE ++ [ah.mk closed c_38]))
 )
 )
 ))

def gp (n : Nat) (c : ah) : Option (A2 Int) :=
 gdO (inR 0 c.Points.length) (
 some (A2.mk (gt c.Points 0).A (gt c.Points 0).B)
 )

def mr (n : Nat) (a : ah) (b : ah) : Option (Int) :=
 bdO (gp n a) fun v1 => (
 bdO (gp n b) fun v3 => (
 bdO (gV n v1 v3) fun v5 => (
 some (v5)
 )
 )
 )

def bt (n : Nat) (data : List ah) (a : Int) (b : Int) : Option (List ah) :=
 bdO (aO (α := List ah × Int) (β := List ah) n (fun again72 (d_49, i_50) => (
 cdO (decide (i_50 < b)) (
 bdO (aO (α := List ah × Int) (β := List ah) n (fun again83 (d_74, j_75) => (
 cdO (decide (j_75 > a)) (
 gdO (inR j_75 d_74.length) (
 gdO (inR (CT (j_75 - 1)) d_74.length) (
 bdO (mr n (gt d_74 j_75) (gt d_74 (CT (j_75 - 1)))) fun v87 => (
 cdO (decide (v87 < 0)) (
 again83 ((d_74.set j_75.toNat (gt d_74 (CT (j_75 - 1)))).set (CT (j_75 - 1)).toNat (gt d_74 j_75), CT (j_75 - 1))
 ) (
 some (d_74)
 )
 )
 )
 )
 ) (
 some (d_74)
 )
 )) (d_49, i_50)) fun d_82 => (
 again72 (d_82, CT (i_50 + 1))
 )
 ) (
 some (d_49)
 )
 )) (data, CT (a + 1))) fun d_71 => (
 some (d_71)
 )

def bK (n : Nat) (data : List ah) (a : Int) (b : Int) (limit : Int) : Option (List ah) :=
 bdO (aO (α := Int × Int × Int × Bool × Bool) (β := List ah) n (fun again31 (a_21, b_22, l_23, w_24, w_25) => (
 gdO ((decide ((CT (b_22 - a_21)) <= 12))) (
 bdO (bt n data a_21 b_22) fun v33 => (
 some (v33)
 )
 )
 )) (a, b, limit, true, true)) fun r0 => (
 some r0
 )

def a8 (n : Nat) (x' : List ah) : Option (List ah) :=
 bdO (j2 n (aa .u64 (x'.length : Int))) fun v6 => (
 bdO (bK n x' 0 (x'.length : Int) v6) fun v8 => (
 some (v8)
 )
 )

noncomputable def iw (n : Nat) (g : an) (level : Int) : Option (List ah) :=
 bdO (bl n g g.X0 g.Y0 g.Step g.Width g.Height g.Z level ([] : List (A2 Int × A2 Int)) ([] : List (A2 Int × Bool))) fun v1 => (
 wS (ε := A2 Int × A2 Int) (σ := List (A2 Int)) v1.1 (fun s_16 e12 => (
 gdO (decide ((s_16.length + 1) * 16 <= 140737488355328)) (
 gdO (decide (s_16.length + 1 <= 4611686018427387904)) (
 some (s_16 ++ [e12.1])
 )
 )
 )) [] fun s_16 => (
 bdO (aM n s_16) fun v21 => (
 gdO (decide (v21.length = s_16.length)) (
 bdO (aO (α := List (A2 Int × Bool) × List ah × Int) (β := List (A2 Int × Bool) × List ah) n (fun again56 (d_45, o_46, x_47) => (
 cdO (decide (x_47 < (s_16.length : Int))) (
 gdO (inR x_47 v21.length) (
 cdO (!(getM false v1.2 (gt v21 x_47))) (
 bdO (fT n (gt v21 x_47) false d_45 g.X0 g.Y0 g.Step g.Width g.Height g.Z level v1.1 o_46) fun v61 => (
 again56 (v61.1, v61.2, CT (x_47 + 1))
 )
 ) (
 again56 (d_45, o_46, CT (x_47 + 1))
 )
 )
 ) (
 some ((d_45, o_46))
 )
 )) (([] : List (A2 Int × Bool)), [], 0)) fun o63 => (
 match o63 with
 | (d_54, o_55) => (
 bdO (aO (α := List (A2 Int × Bool) × List ah × Int) (β := List ah) n (fun again76 (d_66, o_67, x_68) => (
 cdO (decide (x_68 < (v21.length : Int))) (
 gdO (inR x_68 v21.length) (
 cdO (!(getM false d_66 (gt v21 x_68))) (
 bdO (fT n (gt v21 x_68) true d_66 g.X0 g.Y0 g.Step g.Width g.Height g.Z level v1.1 o_67) fun v81 => (
 again76 (v81.1, v81.2, CT (x_68 + 1))
 )
 ) (
 again76 (d_66, o_67, CT (x_68 + 1))
 )
 )
 ) (
 some (o_67)
 )
 )) (d_54, o_55, 0)) fun o_75 => (
 bdO (a8 n o_75) fun v86 => (
 gdO (decide (v86.length = o_75.length)) (
 some (v86)
 )
 )
 )
 ))
 )
 )
 )
 )

noncomputable def ka (n : Nat) (g : an) (level : Int) : Option (List ah × Int) :=
 bdO (gF n g level) fun v1 => (
 cdO ((v1 : Int) != 0) (
 some (([], v1))
 ) (
 bdO (iw n g level) fun v4 => (
 some ((v4, 0))
 )
 )
 )

def cj (n : Nat) (n' : Int) : Option (ak) :=
 bdO (fv n n') fun v1 => (
 bdO (fv n 1) fun v3 => (
 some (ak.mk v1 v3)
 )
 )

def j9 (n : Nat) (x' : Int) : Option (Bool) :=
 some ((x' : Int) != x')

def ji (n : Nat) (x' : Int) (y : Int) : Option (Int) :=
 bdO (j9 n x') fun v1 => (
 bdO (j9 n y) fun v3 => (
 cdO v1 (
 cdO v3 (
 some (0)
 ) (
 some ((-1))
 )
 ) (
 cdO v3 (
 some (1)
 ) (
 cdO (decide (x' < y)) (
 some ((-1))
 ) (
 cdO (decide (x' > y)) (
 some (1)
 ) (
 some (0)
 )
 )
 )
 )
 )
 )

def fl (n : Nat) (x' : ai) (y : ai) : Option (Int) :=
 bdO (dr n x') fun v1 => (
 bdO (dr n y) fun v3 => (
 cdO ((v1 : Int) != v3) (
 bdO (ji n v1 v3) fun v6 => (
 some (v6)
 )
 ) (
 bdO (bX n x') fun v8 => (
 bdO (bX n y) fun v10 => (
 bdO (fX n v8 v10) fun v12 => (
 cdO x'.Negative (
 some (CT (0 - v12))
 ) (
 some (v12)
 )
 )
 )
 )
 )
 )
 )

def c6 (n : Nat) (x' : ak) : Option (Bool) :=
 bdO (dU n x'.Num) fun v1 => (
 cdO (!v1) (
 some (false)
 ) (
 bdO (dU n x'.Den) fun v4 => (
 cdO (!v4) (
 some (false)
 ) (
 bdO (dr n x'.Den) fun v7 => (
 cdO (decide (v7 <= 0)) (
 some (false)
 ) (
 bdO (g9 n x'.Num x'.Den) fun v10 => (
 bdO (fv n 1) fun v12 => (
 bdO (fl n v10 v12) fun v14 => (
 some ((v14 : Int) == 0)
 )
 )
 )
 )
 )
 )
 )
 )
 )

def jb (n : Nat) (x' : ak) : Option (ak) :=
 bdO (eQ n x'.Num) fun v1 => (
 bdO (eQ n v1) fun v3 => (
 bdO (eQ n x'.Den) fun v5 => (
 bdO (eQ n v5) fun v7 => (
 some (ak.mk v3 v7)
 )
 )
 )
 )

def cu (n : Nat) (x' : ak) : Option (ak) :=
 bdO (c6 n x') fun v1 => (
 cdO v1 (
 bdO (jb n x') fun v4 => (
 some (v4)
 )
 ) (
 bdO (cj n 0) fun v6 => (
 some (v6)
 )
 )
 )

def bn (n : Nat) (x' : ak) : Option (Int) :=
 bdO (cu n x') fun v1 => (
 bdO (dr n v1.Num) fun v3 => (
 some (v3)
 )
 )

def o0 (n : Nat) (x' : ak) : Option (ak) :=
 bdO (cu n x') fun v1 => (
 bdO (eQ n v1.Num) fun v3 => (
 some (ak.mk v3 v1.Den)
 )
 )

def dM (n : Nat) (x' : ai) (y : ai) : Option (ai) :=
 bdO (bX n x') fun v1 => (
 bdO (bX n y) fun v3 => (
 bdO (jl n v1 v3) fun v5 => (
 bdO (cg n (x'.Negative != y.Negative) v5) fun v7 => (
 some (v7)
 )
 )
 )
 )

def l5 (n : Nat) (negative : Bool) (a : List Int) (other : Bool) (b : List Int) : Option (ai) :=
 cdO (negative == other) (
 bdO (jV n a b) fun v2 => (
 bdO (cg n negative v2) fun v4 => (
 some (v4)
 )
 )
 ) (
 bdO (fX n a b) fun v6 => (
 cdO (decide (v6 >= 0)) (
 bdO (iu n a b) fun v9 => (
 bdO (cg n negative v9) fun v11 => (
 some (v11)
 )
 )
 ) (
 bdO (iu n b a) fun v13 => (
 bdO (cg n other v13) fun v15 => (
 some (v15)
 )
 )
 )
 )
 )

def lU (n : Nat) (x' : ai) (y : ai) : Option (ai) :=
 bdO (bX n x') fun v1 => (
 bdO (bX n y) fun v3 => (
 bdO (l5 n x'.Negative v1 y.Negative v3) fun v5 => (
 some (v5)
 )
 )
 )

def fC (n : Nat) (x' : ak) (y : ak) : Option (ak) :=
 bdO (cu n x') fun v1 => (
 bdO (cu n y) fun v3 => (
 bdO (dM n v1.Num v3.Den) fun v5 => (
 bdO (dM n v3.Num v1.Den) fun v7 => (
 bdO (lU n v5 v7) fun v9 => (
 bdO (dM n v1.Den v3.Den) fun v11 => (
 bdO (eP n v9 v11) fun v13 => (
 some (v13)
 )
 )
 )
 )
 )
 )
 )

def eI (n : Nat) (x' : ak) (y : ak) : Option (ak) :=
 bdO (o0 n y) fun v1 => (
 bdO (fC n x' v1) fun v3 => (
 some (v3)
 )
 )

def kb (n : Nat) (p : ak) (p' : ak) (p'' : ak) (tip : ak) : Option (ak) :=
 bdO (cj n 1) fun v1 => (
 bdO (eI n v1 tip) fun v3 => (
 some (v3)
 )
 )

def dH (n : Nat) (x' : ak) (y : ak) : Option (ak) :=
 bdO (cu n x') fun v1 => (
 bdO (cu n y) fun v3 => (
 bdO (dM n v1.Num v3.Num) fun v5 => (
 bdO (dM n v1.Den v3.Den) fun v7 => (
 bdO (eP n v5 v7) fun v9 => (
 some (v9)
 )
 )
 )
 )
 )

def mz (n : Nat) (x' : ak) (y : ak) : Option (ak × Int) :=
 bdO (cu n x') fun v1 => (
 bdO (cu n y) fun v3 => (
 bdO (dr n v3.Num) fun v5 => (
 cdO ((v5 : Int) == 0) (
 some ((ak.mk (ai.mk false []) (ai.mk false []), 14))
 ) (
 bdO (dM n v1.Num v3.Den) fun v8 => (
 bdO (dM n v1.Den v3.Num) fun v10 => (
 bdO (eP n v8 v10) fun v12 => (
 some ((v12, 0))
 )
 )
 )
 )
 )
 )
 )

def nV (n : Nat) (a : ak) (b : ak) (c : ak) : Option (ak) :=
 bdO (dH n a a) fun v1 => (
 bdO (eI n a b) fun v3 => (
 bdO (eI n a c) fun v5 => (
 bdO (dH n v3 v5) fun v7 => (
 bdO (mz n v1 v7) fun v9 => (
 some (v9.1)
 )
 )
 )
 )
 )

def kN (n : Nat) (t : A3 Int) (p : Int) (p' : Int) (p'' : Int) (cU : Int) (bx : Int) (aP : List Int) (aR : Int) (aV : Bool) (aG : List Int) (aE : Bool) (aT : List Int) : Option (Bool × List Int × Bool × List Int) :=
 bdO (α := Bool × List Int × Bool × List Int × Bool × List Int × Bool × List Int × Bool × List Int × Bool × List Int × Int) (
 gdO (inR t.e0 aP.length) (
 bdO (fJ n (CT ((CT (2 * (gt aP t.e0))) - aR)) 2) fun v225 => (
 bdO (bn n v225.1) fun v227 => (
 cdO (decide (v227 > 0)) (
 gdO (inR t.e1 aP.length) (
 bdO (fJ n (CT ((CT (2 * (gt aP t.e1))) - aR)) 2) fun v231 => (
 bdO (bn n v231.1) fun v233 => (
 cdO (decide (v233 > 0)) (
 gdO (inR t.e2 aP.length) (
 bdO (fJ n (CT ((CT (2 * (gt aP t.e2))) - aR)) 2) fun v237 => (
 bdO (bn n v237.1) fun v239 => (
 cdO (decide (v239 > 0)) (
 some ((v225.1.Num.Negative, v225.1.Num.Groups, v225.1.Den.Negative, v225.1.Den.Groups, v231.1.Num.Negative, v231.1.Num.Groups, v231.1.Den.Negative, v231.1.Den.Groups, v237.1.Num.Negative, v237.1.Num.Groups, v237.1.Den.Negative, v237.1.Den.Groups, 3))
 ) (
 some ((v225.1.Num.Negative, v225.1.Num.Groups, v225.1.Den.Negative, v225.1.Den.Groups, v231.1.Num.Negative, v231.1.Num.Groups, v231.1.Den.Negative, v231.1.Den.Groups, v237.1.Num.Negative, v237.1.Num.Groups, v237.1.Den.Negative, v237.1.Den.Groups, 2))
 )
 )
 )
 )
 ) (
 gdO (inR t.e2 aP.length) (
 bdO (fJ n (CT ((CT (2 * (gt aP t.e2))) - aR)) 2) fun v243 => (
 bdO (bn n v243.1) fun v245 => (
 cdO (decide (v245 > 0)) (
 some ((v225.1.Num.Negative, v225.1.Num.Groups, v225.1.Den.Negative, v225.1.Den.Groups, v231.1.Num.Negative, v231.1.Num.Groups, v231.1.Den.Negative, v231.1.Den.Groups, v243.1.Num.Negative, v243.1.Num.Groups, v243.1.Den.Negative, v243.1.Den.Groups, 2))
 ) (
 some ((v225.1.Num.Negative, v225.1.Num.Groups, v225.1.Den.Negative, v225.1.Den.Groups, v231.1.Num.Negative, v231.1.Num.Groups, v231.1.Den.Negative, v231.1.Den.Groups, v243.1.Num.Negative, v243.1.Num.Groups, v243.1.Den.Negative, v243.1.Den.Groups, 1))
 )
 )
 )
 )
 )
 )
 )
 )
 ) (
 gdO (inR t.e1 aP.length) (
 bdO (fJ n (CT ((CT (2 * (gt aP t.e1))) - aR)) 2) fun v249 => (
 bdO (bn n v249.1) fun v251 => (
 cdO (decide (v251 > 0)) (
 gdO (inR t.e2 aP.length) (
 bdO (fJ n (CT ((CT (2 * (gt aP t.e2))) - aR)) 2) fun v255 => (
 bdO (bn n v255.1) fun v257 => (
 cdO (decide (v257 > 0)) (
 some ((v225.1.Num.Negative, v225.1.Num.Groups, v225.1.Den.Negative, v225.1.Den.Groups, v249.1.Num.Negative, v249.1.Num.Groups, v249.1.Den.Negative, v249.1.Den.Groups, v255.1.Num.Negative, v255.1.Num.Groups, v255.1.Den.Negative, v255.1.Den.Groups, 2))
 ) (
 some ((v225.1.Num.Negative, v225.1.Num.Groups, v225.1.Den.Negative, v225.1.Den.Groups, v249.1.Num.Negative, v249.1.Num.Groups, v249.1.Den.Negative, v249.1.Den.Groups, v255.1.Num.Negative, v255.1.Num.Groups, v255.1.Den.Negative, v255.1.Den.Groups, 1))
 )
 )
 )
 )
 ) (
 gdO (inR t.e2 aP.length) (
 bdO (fJ n (CT ((CT (2 * (gt aP t.e2))) - aR)) 2) fun v261 => (
 bdO (bn n v261.1) fun v263 => (
 cdO (decide (v263 > 0)) (
 some ((v225.1.Num.Negative, v225.1.Num.Groups, v225.1.Den.Negative, v225.1.Den.Groups, v249.1.Num.Negative, v249.1.Num.Groups, v249.1.Den.Negative, v249.1.Den.Groups, v261.1.Num.Negative, v261.1.Num.Groups, v261.1.Den.Negative, v261.1.Den.Groups, 1))
 ) (
 some ((v225.1.Num.Negative, v225.1.Num.Groups, v225.1.Den.Negative, v225.1.Den.Groups, v249.1.Num.Negative, v249.1.Num.Groups, v249.1.Den.Negative, v249.1.Den.Groups, v261.1.Num.Negative, v261.1.Num.Groups, v261.1.Den.Negative, v261.1.Den.Groups, 0))
 )
 )
 )
 )
 )
 )
 )
 )
 )
 )
 )
 )
 ) fun o266 => (
 match o266 with
 | (h_211, h_212, h_213, h_214, h_215, h_216, h_217, h_218, h_219, h_220, h_221, h_222, u_223) => (
 cdO ((u_223 : Int) == 0) (
 some ((aV, aG, aE, aT))
 ) (
 cdO ((u_223 : Int) == 3) (
 bdO (cj n 0) fun v294 => (
 bdO (kb n (ak.mk (ai.mk h_211 h_212) (ai.mk h_213 h_214)) (ak.mk (ai.mk h_215 h_216) (ai.mk h_217 h_218)) (ak.mk (ai.mk h_219 h_220) (ai.mk h_221 h_222)) v294) fun v296 => (
 bdO (fC n (ak.mk (ai.mk aV aG) (ai.mk aE aT)) v296) fun v298 => (
 some ((v298.Num.Negative, v298.Num.Groups, v298.Den.Negative, v298.Den.Groups))
 )
 )
 )
 ) (
 bdO (aO (α := Bool × List Int × Bool × List Int × Bool × List Int × Bool × List Int × Bool × List Int × Bool × List Int) (β := Bool × List Int × Bool × List Int × Bool × List Int × Bool × List Int × Bool × List Int × Bool × List Int) n (fun again391 (h_354, h_355, h_356, h_357, h_358, h_359, h_360, h_361, h_362, h_363, h_364, h_365) => (
 bdO (α := Sum (Unit) (Unit)) (
 bdO (bn n (ak.mk (ai.mk h_354 h_355) (ai.mk h_356 h_357))) fun v394 => (
 cdO ((decide (v394 > 0)) != ((u_223 : Int) == 1)) (
 some (Sum.inr (()))
 ) (
 bdO (bn n (ak.mk (ai.mk h_358 h_359) (ai.mk h_360 h_361))) fun v397 => (
 bdO (bn n (ak.mk (ai.mk h_362 h_363) (ai.mk h_364 h_365))) fun v399 => (
 cdO ((decide (v397 > 0)) != (decide (v399 > 0))) (
 some (Sum.inr (()))
 ) (
 some (Sum.inl ())
 )
 )
 )
 )
 )
 ) fun o402 => (
 match o402 with
 | .inl _ => (
 some ((h_354, h_355, h_356, h_357, h_358, h_359, h_360, h_361, h_362, h_363, h_364, h_365))
 )
 | .inr (_) => (
 again391 (h_358, h_359, h_360, h_361, h_362, h_363, h_364, h_365, h_354, h_355, h_356, h_357)
 ))
 )) (h_211, h_212, h_213, h_214, h_215, h_216, h_217, h_218, h_219, h_220, h_221, h_222)) fun o405 => (
 match o405 with
 | (h_379, h_380, h_381, h_382, h_383, h_384, h_385, h_386, h_387, h_388, h_389, h_390) => (
 bdO (nV n (ak.mk (ai.mk h_379 h_380) (ai.mk h_381 h_382)) (ak.mk (ai.mk h_383 h_384) (ai.mk h_385 h_386)) (ak.mk (ai.mk h_387 h_388) (ai.mk h_389 h_390))) fun v408 => (
 cdO ((u_223 : Int) == 2) (
 bdO (kb n (ak.mk (ai.mk h_379 h_380) (ai.mk h_381 h_382)) (ak.mk (ai.mk h_383 h_384) (ai.mk h_385 h_386)) (ak.mk (ai.mk h_387 h_388) (ai.mk h_389 h_390)) v408) fun v411 => (
 bdO (fC n (ak.mk (ai.mk aV aG) (ai.mk aE aT)) v411) fun v413 => (
 some ((v413.Num.Negative, v413.Num.Groups, v413.Den.Negative, v413.Den.Groups))
 )
 )
 ) (
 bdO (fC n (ak.mk (ai.mk aV aG) (ai.mk aE aT)) v408) fun v415 => (
 some ((v415.Num.Negative, v415.Num.Groups, v415.Den.Negative, v415.Den.Groups))
 )
 )
 )
 ))
 )
 )
 ))

def dP (n : Nat) (g : an) (c : Int) (c' : Int) (c'' : Int) (c8 : Int) (bH : Int) (bg : List Int) (aW : Int) (jg : Bool) (gP : List Int) (nq : Bool) (mb : List Int) : Option (Bool × List Int × Bool × List Int) :=
 bdO (aO (α := Bool × List Int × Bool × List Int × Int) (β := Bool × List Int × Bool × List Int) n (fun again318 (c_212, c_213, c_214, c_215, x_216) => (
 cdO (decide (x_216 < (CT (g.Height - 1)))) (
 bdO (aO (α := Bool × List Int × Bool × List Int × Int) (β := Bool × List Int × Bool × List Int) n (fun again371 (c_321, c_322, c_323, c_324, x_325) => (
 cdO (decide (x_325 < (CT (g.Width - 1)))) (
 bdO (some (CT ((CT (x_216 * g.Width)) + x_325))) fun w374 => (
 bdO (some [A3.mk w374 (CT (w374 + 1)) (CT ((CT (w374 + g.Width)) + 1)), A3.mk w374 (CT ((CT (w374 + g.Width)) + 1)) (CT (w374 + g.Width))]) fun w376 => (
 bdO (aO (α := Bool × List Int × Bool × List Int × Int) (β := Bool × List Int × Bool × List Int) n (fun again398 (c_378, c_379, c_380, c_381, x_382) => (
 cdO (decide (x_382 < 2)) (
 gdO (inR x_382 w376.length) (
 gdO (inR (gt w376 x_382).e0 g.Z.length) (
 cdO (((gt g.Z (gt w376 x_382).e0) : Int) != (-2147483648)) (
 gdO (inR (gt w376 x_382).e1 g.Z.length) (
 cdO (((gt g.Z (gt w376 x_382).e1) : Int) != (-2147483648)) (
 gdO (inR (gt w376 x_382).e2 g.Z.length) (
 cdO (((gt g.Z (gt w376 x_382).e2) : Int) != (-2147483648)) (
 bdO (kN n (gt w376 x_382) c c' c'' c8 bH bg aW c_378 c_379 c_380 c_381) fun v408 => (
 again398 (v408.1, v408.2.1, v408.2.2.1, v408.2.2.2, CT (x_382 + 1))
 )
 ) (
 again398 (c_378, c_379, c_380, c_381, CT (x_382 + 1))
 )
 )
 ) (
 again398 (c_378, c_379, c_380, c_381, CT (x_382 + 1))
 )
 )
 ) (
 again398 (c_378, c_379, c_380, c_381, CT (x_382 + 1))
 )
 )
 )
 ) (
 some ((c_378, c_379, c_380, c_381))
 )
 )) (c_321, c_322, c_323, c_324, 0)) fun o410 => (
 match o410 with
 | (c_394, c_395, c_396, c_397) => (
 again371 (c_394, c_395, c_396, c_397, CT (x_325 + 1))
 ))
 )
 )
 ) (
 some ((c_321, c_322, c_323, c_324))
 )
 )) (c_212, c_213, c_214, c_215, 0)) fun o413 => (
 match o413 with
 | (c_367, c_368, c_369, c_370) => (
 again318 (c_367, c_368, c_369, c_370, CT (x_216 + 1))
 ))
 ) (
 some ((c_212, c_213, c_214, c_215))
 )
 )) (jg, gP, nq, mb, 0)) fun o416 => (
 match o416 with
 | (c_314, c_315, c_316, c_317) => (
 some ((c_314, c_315, c_316, c_317))
 ))

def cK (n : Nat) (g : an) (level : Int) : Option (ak) :=
 bdO (cj n 0) fun v1 => (
 bdO (dP n g g.X0 g.Y0 g.Step g.Width g.Height g.Z level v1.Num.Negative v1.Num.Groups v1.Den.Negative v1.Den.Groups) fun v3 => (
 bdO (fJ n (CT (g.Step * g.Step)) 2) fun v5 => (
 bdO (dH n (ak.mk (ai.mk v3.1 v3.2.1) (ai.mk v3.2.2.1 v3.2.2.2)) v5.1) fun v7 => (
 some (v7)
 )
 )
 )
 )

def nQ (n : Nat) (g : an) (level : Int) : Option (ak × Int) :=
 bdO (gF n g level) fun v1 => (
 cdO ((v1 : Int) != 0) (
 some ((ak.mk (ai.mk false []) (ai.mk false []), v1))
 ) (
 bdO (cK n g level) fun v4 => (
 some ((v4, 0))
 )
 )
 )

def ia (n : Nat) (s : List Int) (v : Int) : Option (Int) :=
 bdO (aO (α := Int) (β := Sum (Unit) (Int)) n (fun again5 x_1 => (
 cdO (decide (x_1 < (s.length : Int))) (
 gdO (inR x_1 s.length) (
 cdO ((v : Int) == (gt s x_1)) (
 some (Sum.inr (x_1))
 ) (
 again5 (CT (x_1 + 1))
 )
 )
 ) (
 some (Sum.inl ())
 )
 )) 0) fun o9 => (
 match o9 with
 | .inl _ => (
 some ((-1))
 )
 | .inr (r0) => (
 some r0
 ))

def cl (n : Nat) (s : List Int) (v : Int) : Option (Bool) :=
 bdO (ia n s v) fun v1 => (
 some (decide (v1 >= 0))
 )

def fz (n : Nat) (t : A3 Int) (p : Bool) (p' : Int) (p'' : Int) : Option (Bool) :=
 cdO p (
 some (true)
 ) (
 bdO (cl n [t.e0, t.e1, t.e2] p') fun v9 => (
 cdO v9 (
 bdO (cl n [t.e0, t.e1, t.e2] p'') fun v12 => (
 some (v12)
 )
 ) (
 some (false)
 )
 )
 )

def cO (n : Nat) (g : an) (c : Bool) (c' : Int) (c'' : Int) : Option (Bool) :=
 bdO (aO (α := Bool × Int) (β := Bool) n (fun again249 (c_167, x_168) => (
 cdO (decide (x_168 < (CT (g.Height - 1)))) (
 bdO (aO (α := Bool × Int) (β := Bool) n (fun again290 (c_252, x_253) => (
 cdO (decide (x_253 < (CT (g.Width - 1)))) (
 bdO (some (CT ((CT (x_168 * g.Width)) + x_253))) fun w293 => (
 bdO (some [A3.mk w293 (CT (w293 + 1)) (CT ((CT (w293 + g.Width)) + 1)), A3.mk w293 (CT ((CT (w293 + g.Width)) + 1)) (CT (w293 + g.Width))]) fun w295 => (
 bdO (aO (α := Bool × Int) (β := Bool) n (fun again311 (c_297, x_298) => (
 cdO (decide (x_298 < 2)) (
 gdO (inR x_298 w295.length) (
 gdO (inR (gt w295 x_298).e0 g.Z.length) (
 cdO (((gt g.Z (gt w295 x_298).e0) : Int) != (-2147483648)) (
 gdO (inR (gt w295 x_298).e1 g.Z.length) (
 cdO (((gt g.Z (gt w295 x_298).e1) : Int) != (-2147483648)) (
 gdO (inR (gt w295 x_298).e2 g.Z.length) (
 cdO (((gt g.Z (gt w295 x_298).e2) : Int) != (-2147483648)) (
 bdO (fz n (gt w295 x_298) c_297 c' c'') fun v321 => (
 again311 (v321, CT (x_298 + 1))
 )
 ) (
 again311 (c_297, CT (x_298 + 1))
 )
 )
 ) (
 again311 (c_297, CT (x_298 + 1))
 )
 )
 ) (
 again311 (c_297, CT (x_298 + 1))
 )
 )
 )
 ) (
 some (c_297)
 )
 )) (c_252, 0)) fun c_310 => (
 again290 (c_310, CT (x_253 + 1))
 )
 )
 )
 ) (
 some (c_252)
 )
 )) (c_167, 0)) fun c_289 => (
 again249 (c_289, CT (x_168 + 1))
 )
 ) (
 some (c_167)
 )
 )) (c, 0)) fun c_248 => (
 some (c_248)
 )

def jG (n : Nat) (g : an) (a : Int) (b : Int) : Option (Bool) :=
 cdO (decide (a < 0)) (
 some (false)
 ) (
 cdO (decide (a >= b)) (
 some (false)
 ) (
 cdO (decide (b >= (g.Z.length : Int))) (
 some (false)
 ) (
 bdO (cO n g false a b) fun v4 => (
 some (v4)
 )
 )
 )
 )

def eS (n : Nat) (x' : ak) (y : ak) : Option (Int) :=
 bdO (cu n x') fun v1 => (
 bdO (cu n y) fun v3 => (
 bdO (dM n v1.Num v3.Den) fun v5 => (
 bdO (dM n v3.Num v1.Den) fun v7 => (
 bdO (fl n v5 v7) fun v9 => (
 some (v9)
 )
 )
 )
 )
 )

def dS (n : Nat) (a : Int) (b : Int) (p : Int) (p' : Int) (p'' : Bool) (cU : List Int) (bx : Bool) (aP : List Int) : Option (ak) :=
 bdO (cj n a) fun v1 => (
 bdO (cj n (CT (b - a))) fun v3 => (
 bdO (dH n (ak.mk (ai.mk p'' cU) (ai.mk bx aP)) v3) fun v5 => (
 bdO (fC n v1 v5) fun v7 => (
 some (v7)
 )
 )
 )
 )

def ir (n : Nat) (g : an) (c : al) : Option (az × Int) :=
 bdO (jG n g c.A c.B) fun v1 => (
 cdO (!v1) (
 some ((az.mk (ak.mk (ai.mk false []) (ai.mk false [])) (ak.mk (ai.mk false []) (ai.mk false [])), 6))
 ) (
 bdO (c6 n c.At) fun v5 => (
 cdO (!v5) (
 some ((az.mk (ak.mk (ai.mk false []) (ai.mk false [])) (ak.mk (ai.mk false []) (ai.mk false [])), 1))
 ) (
 bdO (α := Bool) (
 bdO (bn n c.At) fun v12 => (
 cdO (decide (v12 < 0)) (
 some (true)
 ) (
 bdO (cj n 1) fun v15 => (
 bdO (eS n c.At v15) fun v17 => (
 some (decide (v17 > 0))
 )
 )
 )
 )
 ) fun x_11 => (
 cdO x_11 (
 some ((az.mk (ak.mk (ai.mk false []) (ai.mk false [])) (ak.mk (ai.mk false []) (ai.mk false [])), 2))
 ) (
 gdO (!decide (g.Width = 0)) (
 bdO (dS n (CT (g.X0 + (CT ((c.A.tmod g.Width) * g.Step)))) (CT (g.X0 + (CT ((c.B.tmod g.Width) * g.Step)))) c.A c.B c.At.Num.Negative c.At.Num.Groups c.At.Den.Negative c.At.Den.Groups) fun v25 => (
 bdO (dS n (CT (g.Y0 + (CT ((CT (c.A.tdiv g.Width)) * g.Step)))) (CT (g.Y0 + (CT ((CT (c.B.tdiv g.Width)) * g.Step)))) c.A c.B c.At.Num.Negative c.At.Num.Groups c.At.Den.Negative c.At.Den.Groups) fun v27 => (
 some ((az.mk v25 v27, 0))
 )
 )
 )
 )
 )
 )
 )
 )
 )

def m8 (n : Nat) (g : an) (c : ah) : Option (List az × Int) :=
 bdO (aO (α := List az × Int) (β := Sum (List az) (List az × Int)) n (fun again12 (o_1, x_2) => (
 cdO (decide (x_2 < (c.Points.length : Int))) (
 gdO (inR x_2 c.Points.length) (
 bdO (ir n g (gt c.Points x_2)) fun v16 => (
 cdO ((v16.2 : Int) != 0) (
 some (Sum.inr (([], v16.2)))
 ) (
 gdO (decide ((o_1.length + 1) * 128 <= 140737488355328)) (
 gdO (decide (o_1.length + 1 <= 4611686018427387904)) (
 again12 (o_1 ++ [v16.1], CT (x_2 + 1))
 )
 )
 )
 )
 )
 ) (
 some (Sum.inl o_1)
 )
 )) ([], 0)) fun o21 => (
 match o21 with
 | .inl o_11 => (
 some ((o_11, 0))
 )
 | .inr (r0) => (
 some r0
 ))

def ml (n : Nat) (polygon : List az) (o : az) : Option (Int × Bool) :=
 bdO (aO (α := Int × Int) (β := Sum (Int) (Int × Bool)) n (fun again52 (n_1, x_2) => (
 cdO (decide (x_2 < (polygon.length : Int))) (
 gdO (inR x_2 polygon.length) (
 gdO (!decide ((polygon.length : Int) = 0)) (
 gdO (inR ((CT (x_2 + 1)).tmod (polygon.length : Int)) polygon.length) (
 bdO (eI n (gt polygon x_2).X o.X) fun v58 => (
 bdO (eI n (gt polygon x_2).Y o.Y) fun v60 => (
 bdO (eI n (gt polygon ((CT (x_2 + 1)).tmod (polygon.length : Int))).X o.X) fun v62 => (
 bdO (eI n (gt polygon ((CT (x_2 + 1)).tmod (polygon.length : Int))).Y o.Y) fun v64 => (
 bdO (dH n v58 v64) fun v66 => (
 bdO (dH n v60 v62) fun v68 => (
 bdO (eI n v66 v68) fun v70 => (
 bdO (bn n v70) fun v72 => (
 bdO (α := Sum (Unit) (Int × Bool)) (
 cdO ((v72 : Int) == 0) (
 bdO (dH n v58 v62) fun v75 => (
 bdO (dH n v60 v64) fun v77 => (
 bdO (fC n v75 v77) fun v79 => (
 bdO (bn n v79) fun v81 => (
 cdO (decide (v81 <= 0)) (
 some (Sum.inr ((0, true)))
 ) (
 some (Sum.inl ())
 )
 )
 )
 )
 )
 ) (
 some (Sum.inl ())
 )
 ) fun o84 => (
 match o84 with
 | .inl _ => (
 bdO (bn n v60) fun v87 => (
 bdO (bn n v64) fun v89 => (
 bdO (α := Bool) (
 cdO (decide (v87 <= 0)) (
 cdO (!(decide (v89 <= 0))) (
 some (decide (v72 > 0))
 ) (
 some (false)
 )
 ) (
 some (false)
 )
 ) fun x_91 => (
 cdO x_91 (
 again52 (CT (n_1 + 1), CT (x_2 + 1))
 ) (
 cdO (!(decide (v87 <= 0))) (
 cdO (decide (v89 <= 0)) (
 cdO (decide (v72 < 0)) (
 again52 (CT (n_1 - 1), CT (x_2 + 1))
 ) (
 again52 (n_1, CT (x_2 + 1))
 )
 ) (
 again52 (n_1, CT (x_2 + 1))
 )
 ) (
 again52 (n_1, CT (x_2 + 1))
 )
 )
 )
 )
 )
 )
 | .inr (r0) => (
 some (Sum.inr (r0))
 ))
 )
 )
 )
 )
 )
 )
 )
 )
 )
 )
 )
 ) (
 some (Sum.inl n_1)
 )
 )) (0, 0)) fun o101 => (
 match o101 with
 | .inl n_51 => (
 some ((n_51, false))
 )
 | .inr (r0) => (
 some r0
 ))

def nU (n : Nat) (g : an) (l : ah) (i : Int) (j : Int) : Option (Int × Int) :=
 bdO (iy n g) fun v1 => (
 cdO ((v1 : Int) != 0) (
 some ((0, v1))
 ) (
 bdO (α := Bool) (
 cdO (decide (i < 0)) (
 some (true)
 ) (
 cdO (decide (i >= g.Width)) (
 some (true)
 ) (
 cdO (decide (j < 0)) (
 some (true)
 ) (
 some (decide (j >= g.Height))
 )
 )
 )
 ) fun x_5 => (
 cdO x_5 (
 some ((0, 2))
 ) (
 cdO (!l.Closed) (
 some ((0, 11))
 ) (
 bdO (m8 n g l) fun v16 => (
 cdO ((v16.2 : Int) != 0) (
 some ((0, v16.2))
 ) (
 bdO (cj n (CT (g.X0 + (CT (i * g.Step))))) fun v20 => (
 bdO (cj n (CT (g.Y0 + (CT (j * g.Step))))) fun v22 => (
 bdO (ml n v16.1 (az.mk v20 v22)) fun v24 => (
 cdO v24.2 (
 some ((0, 13))
 ) (
 cdO (((v16.1.length : Int) : Int) == 0) (
 some ((0, 13))
 ) (
 some ((v24.1, 0))
 )
 )
 )
 )
 )
 )
 )
 )
 )
 )
 )
 )

def a7 (n : Nat) (negative : Bool) (l : List Int) : Option (ai) :=
 bdO (aO (α := Int) (β := Int) n (fun again6 n_1 => (
 cdO (decide (n_1 > 0)) (
 gdO (inR (CT (n_1 - 1)) l.length) (
 cdO (((gt l (CT (n_1 - 1))) : Int) == 0) (
 again6 (CT (n_1 - 1))
 ) (
 some (n_1)
 )
 )
 ) (
 some (n_1)
 )
 )) (l.length : Int)) fun n_5 => (
 cdO negative (
 gdO (inS 0 n_5 l.length) (
 gdO (decide ((0 + ((l.drop (0 : Int).toNat).take (n_5.toNat - (0 : Int).toNat)).length) * 4 <= 140737488355328)) (
 gdO (decide (0 + ((l.drop (0 : Int).toNat).take (n_5.toNat - (0 : Int).toNat)).length <= 4611686018427387904)) (
 some (ai.mk (decide (n_5 > 0)) ((l.drop (0 : Int).toNat).take (n_5.toNat - (0 : Int).toNat)))
 )
 )
 )
 ) (
 gdO (inS 0 n_5 l.length) (
 gdO (decide ((0 + ((l.drop (0 : Int).toNat).take (n_5.toNat - (0 : Int).toNat)).length) * 4 <= 140737488355328)) (
 gdO (decide (0 + ((l.drop (0 : Int).toNat).take (n_5.toNat - (0 : Int).toNat)).length <= 4611686018427387904)) (
 some (ai.mk false ((l.drop (0 : Int).toNat).take (n_5.toNat - (0 : Int).toNat)))
 )
 )
 )
 )
 )

def gv (n : Nat) (n' : Int) : Option (ai) :=
 cdO (decide (n' < 0)) (
 bdO (aO (α := Int × List Int) (β := List Int) n (fun again8 (u_2, l_3) => (
 cdO (decide (u_2 > 0)) (
 gdO (decide ((l_3.length + 1) * 4 <= 140737488355328)) (
 gdO (decide (l_3.length + 1 <= 4611686018427387904)) (
 again8 (aa .u64 (u_2.tdiv 1000000000), l_3 ++ [aa .u32 (u_2.tmod 1000000000)])
 )
 )
 ) (
 some (l_3)
 )
 )) (aa .u64 ((aa .u64 (CT (0 - (CT (n' + 1))))) + 1), [])) fun l_7 => (
 bdO (a7 n true l_7) fun v15 => (
 some (v15)
 )
 )
 ) (
 bdO (aO (α := Int × List Int) (β := List Int) n (fun again23 (u_17, l_18) => (
 cdO (decide (u_17 > 0)) (
 gdO (decide ((l_18.length + 1) * 4 <= 140737488355328)) (
 gdO (decide (l_18.length + 1 <= 4611686018427387904)) (
 again23 (aa .u64 (u_17.tdiv 1000000000), l_18 ++ [aa .u32 (u_17.tmod 1000000000)])
 )
 )
 ) (
 some (l_18)
 )
 )) (aa .u64 n', [])) fun l_22 => (
 bdO (a7 n false l_22) fun v30 => (
 some (v30)
 )
 )
 )

def b7 (n : Nat) (n' : Int) : Option (ai) :=
 bdO (gv n n') fun v1 => (
 some (v1)
 )

def ct (n : Nat) (x' : ai) : Option (Bool) :=
 bdO (aO (α := Int) (β := Sum (Unit) (Bool)) n (fun again5 i_1 => (
 cdO (decide (i_1 < (x'.Groups.length : Int))) (
 gdO (inR i_1 x'.Groups.length) (
 cdO (decide ((gt x'.Groups i_1) >= 1000000000)) (
 some (Sum.inr (false))
 ) (
 again5 (CT (i_1 + 1))
 )
 )
 ) (
 some (Sum.inl ())
 )
 )) 0) fun o9 => (
 match o9 with
 | .inl _ => (
 cdO (((x'.Groups.length : Int) : Int) == 0) (
 some (!x'.Negative)
 ) (
 gdO (inR (CT ((x'.Groups.length : Int) - 1)) x'.Groups.length) (
 some (((gt x'.Groups (CT ((x'.Groups.length : Int) - 1))) : Int) != 0)
 )
 )
 )
 | .inr (r0) => (
 some r0
 ))

def bk (n : Nat) (x' : ai) : Option (ai) :=
 bdO (ct n x') fun v1 => (
 cdO (!v1) (
 some (ai.mk false [])
 ) (
 gdO (decide ((0 + x'.Groups.length) * 4 <= 140737488355328)) (
 gdO (decide (0 + x'.Groups.length <= 4611686018427387904)) (
 some (x')
 )
 )
 )
 )

def cn (n : Nat) (x' : ai) : Option (Int) :=
 bdO (bk n x') fun v1 => (
 cdO (((v1.Groups.length : Int) : Int) == 0) (
 some (0)
 ) (
 cdO v1.Negative (
 some ((-1))
 ) (
 some (1)
 )
 )
 )

def fk (n : Nat) (a : List Int) (d : Int) : Option (List Int × Int) :=
 gdO (decide (0 <= (a.length : Int))) (
 gdO (decide ((4 : Int) * (a.length : Int) <= 281474976710656)) (
 gdO (decide ((a.length : Int) <= 9223372036854775807)) (
 bdO (aO (α := List Int × Int × Int) (β := List Int × Int) n (fun again13 (q_4, r_5, i_6) => (
 cdO (decide (i_6 >= 0)) (
 gdO (inR i_6 a.length) (
 gdO (!decide (d = 0)) (
 gdO (inR i_6 q_4.length) (
 again13 (q_4.set i_6.toNat (aa .u32 (aa .u64 ((aa .u64 ((aa .u64 (r_5 * 1000000000)) + (aa .u64 (gt a i_6)))).tdiv d))), (aa .u64 ((aa .u64 (r_5 * 1000000000)) + (aa .u64 (gt a i_6)))).tmod d, CT (i_6 - 1))
 )
 )
 )
 ) (
 some ((q_4, r_5))
 )
 )) (List.replicate (a.length : Int).toNat ((0 : Int) : Int), 0, CT ((a.length : Int) - 1))) fun o18 => (
 match o18 with
 | (q_11, r_12) => (
 bdO (a7 n false q_11) fun v21 => (
 some ((v21.Groups, r_12))
 )
 ))
 )
 )
 )

def dk (n : Nat) (a : List Int) (b : List Int) : Option (Int) :=
 cdO (((a.length : Int) : Int) != (b.length : Int)) (
 cdO (decide ((a.length : Int) < (b.length : Int))) (
 some ((-1))
 ) (
 some (1)
 )
 ) (
 bdO (aO (α := Int) (β := Sum (Unit) (Int)) n (fun again9 i_3 => (
 cdO (decide (i_3 >= 0)) (
 gdO (inR i_3 a.length) (
 gdO (inR i_3 b.length) (
 cdO (decide ((gt a i_3) < (gt b i_3))) (
 some (Sum.inr ((-1)))
 ) (
 cdO (decide ((gt a i_3) > (gt b i_3))) (
 some (Sum.inr (1))
 ) (
 again9 (CT (i_3 - 1))
 )
 )
 )
 )
 ) (
 some (Sum.inl ())
 )
 )) (CT ((a.length : Int) - 1))) fun o15 => (
 match o15 with
 | .inl _ => (
 some (0)
 )
 | .inr (r0) => (
 some r0
 ))
 )

def cz (n : Nat) (a : List Int) (d : Int) : Option (List Int) :=
 bdO (aO (α := List Int × Int × Int) (β := List Int × Int) n (fun again10 (o_1, c_2, i_3) => (
 cdO (decide (i_3 < (a.length : Int))) (
 gdO (inR i_3 a.length) (
 gdO (decide ((o_1.length + 1) * 4 <= 140737488355328)) (
 gdO (decide (o_1.length + 1 <= 4611686018427387904)) (
 again10 (o_1 ++ [aa .u32 ((aa .u64 ((aa .u64 ((aa .u64 (gt a i_3)) * d)) + c_2)).tmod 1000000000)], aa .u64 ((aa .u64 ((aa .u64 ((aa .u64 (gt a i_3)) * d)) + c_2)).tdiv 1000000000), CT (i_3 + 1))
 )
 )
 )
 ) (
 some ((o_1, c_2))
 )
 )) ([], 0, 0)) fun o15 => (
 match o15 with
 | (o_8, c_9) => (
 gdO (decide ((o_8.length + 1) * 4 <= 140737488355328)) (
 gdO (decide (o_8.length + 1 <= 4611686018427387904)) (
 bdO (a7 n false (o_8 ++ [aa .u32 c_9])) fun v20 => (
 some (v20.Groups)
 )
 )
 )
 ))

def eA (n : Nat) (a : List Int) (d : Int) : Option (List Int) :=
 gdO (decide ((1 + a.length) * 4 <= 140737488355328)) (
 gdO (decide (1 + a.length <= 4611686018427387904)) (
 bdO (a7 n false ([d] ++ a)) fun v3 => (
 some (v3.Groups)
 )
 )
 )

def bb (n : Nat) (l : List Int) (i : Int) : Option (Int) :=
 cdO (decide (i < (l.length : Int))) (
 gdO (inR i l.length) (
 some (aa .u64 (gt l i))
 )
 ) (
 some (0)
 )

def cw (n : Nat) (a : List Int) (b : List Int) : Option (List Int) :=
 bdO (aO (α := List Int × Int × Int) (β := List Int) n (fun again12 (o_1, b_2, i_3) => (
 cdO (decide (i_3 < (a.length : Int))) (
 bdO (bb n a i_3) fun v14 => (
 bdO (bb n b i_3) fun v16 => (
 gdO (decide ((o_1.length + 1) * 4 <= 140737488355328)) (
 gdO (decide (o_1.length + 1 <= 4611686018427387904)) (
 again12 (o_1 ++ [aa .u32 ((aa .u64 ((aa .u64 ((aa .u64 (1000000000 + v14)) - v16)) - b_2)).tmod 1000000000)], aa .u64 (1 - (aa .u64 ((aa .u64 ((aa .u64 ((aa .u64 (1000000000 + v14)) - v16)) - b_2)).tdiv 1000000000))), CT (i_3 + 1))
 )
 )
 )
 )
 ) (
 some (o_1)
 )
 )) ([], 0, 0)) fun o_11 => (
 bdO (a7 n false o_11) fun v23 => (
 some (v23.Groups)
 )
 )

def dB (n : Nat) (a : List Int) (b : List Int) : Option (List Int × List Int) :=
 cdO (((b.length : Int) : Int) == 1) (
 gdO (inR 0 b.length) (
 bdO (fk n a (aa .u64 (gt b 0))) fun v3 => (
 bdO (a7 n false [(aa .u32 v3.2)]) fun v5 => (
 some ((v3.1, v5.Groups))
 )
 )
 )
 ) (
 bdO (dk n a b) fun v7 => (
 cdO (decide (v7 < 0)) (
 some (([], a))
 ) (
 gdO (inR (CT ((b.length : Int) - 1)) b.length) (
 gdO (!decide (aa .u64 ((aa .u64 (gt b (CT ((b.length : Int) - 1)))) + 1) = 0)) (
 bdO (cz n a (aa .u64 ((1000000000 : Int).tdiv (aa .u64 ((aa .u64 (gt b (CT ((b.length : Int) - 1)))) + 1))))) fun v12 => (
 bdO (cz n b (aa .u64 ((1000000000 : Int).tdiv (aa .u64 ((aa .u64 (gt b (CT ((b.length : Int) - 1)))) + 1))))) fun v14 => (
 gdO (inS (CT ((CT ((v12.length : Int) - (b.length : Int))) + 1)) (v12.length : Int) v12.length) (
 bdO (a7 n false ((v12.drop (CT ((CT ((v12.length : Int) - (b.length : Int))) + 1)).toNat).take ((v12.length : Int).toNat - (CT ((CT ((v12.length : Int) - (b.length : Int))) + 1)).toNat))) fun v17 => (
 gdO (decide (0 <= CT ((CT ((v12.length : Int) - (b.length : Int))) + 1))) (
 gdO (decide ((4 : Int) * (CT ((CT ((v12.length : Int) - (b.length : Int))) + 1)) <= 281474976710656)) (
 gdO (decide (CT ((CT ((v12.length : Int) - (b.length : Int))) + 1) <= 9223372036854775807)) (
 bdO (aO (α := List Int × List Int × Int) (β := List Int × List Int) n (fun again60 (r_22, q_23, i_24) => (
 cdO (decide (i_24 >= 0)) (
 gdO (inR i_24 v12.length) (
 bdO (eA n r_22 (gt v12 i_24)) fun v63 => (
 bdO (bb n v63 (b.length : Int)) fun v65 => (
 bdO (bb n v63 (CT ((b.length : Int) - 1))) fun v67 => (
 gdO (inR (CT ((b.length : Int) - 1)) v14.length) (
 gdO (!decide (aa .u64 ((aa .u64 (gt v14 (CT ((b.length : Int) - 1)))) + 1) = 0)) (
 bdO (cz n v14 (aa .u64 ((aa .u64 ((aa .u64 (v65 * 1000000000)) + v67)).tdiv (aa .u64 ((aa .u64 (gt v14 (CT ((b.length : Int) - 1)))) + 1))))) fun v71 => (
 bdO (cw n v63 v71) fun v73 => (
 bdO (aO (α := List Int × Int) (β := List Int × Int) n (fun again84 (r_75, g_76) => (
 bdO (dk n r_75 v14) fun v85 => (
 cdO (decide (v85 >= 0)) (
 bdO (cw n r_75 v14) fun v88 => (
 again84 (v88, aa .u64 (g_76 + 1))
 )
 ) (
 some ((r_75, g_76))
 )
 )
 )) (v73, aa .u64 ((aa .u64 ((aa .u64 (v65 * 1000000000)) + v67)).tdiv (aa .u64 ((aa .u64 (gt v14 (CT ((b.length : Int) - 1)))) + 1))))) fun o90 => (
 match o90 with
 | (r_82, g_83) => (
 gdO (inR i_24 q_23.length) (
 again60 (r_82, q_23.set i_24.toNat (aa .u32 g_83), CT (i_24 - 1))
 )
 ))
 )
 )
 )
 )
 )
 )
 )
 )
 ) (
 some ((r_22, q_23))
 )
 )) (v17.Groups, List.replicate (CT ((CT ((v12.length : Int) - (b.length : Int))) + 1)).toNat ((0 : Int) : Int), CT ((v12.length : Int) - (b.length : Int)))) fun o94 => (
 match o94 with
 | (r_58, q_59) => (
 bdO (fk n r_58 (aa .u64 ((1000000000 : Int).tdiv (aa .u64 ((aa .u64 (gt b (CT ((b.length : Int) - 1)))) + 1))))) fun v97 => (
 bdO (a7 n false q_59) fun v99 => (
 some ((v99.Groups, v97.1))
 )
 )
 ))
 )
 )
 )
 )
 )
 )
 )
 )
 )
 )
 )
 )

def dL (n : Nat) (a : List Int) : Option (Int) :=
 bdO (bb n a 1) fun v1 => (
 bdO (bb n a 0) fun v3 => (
 some (aa .u64 ((aa .u64 (v1 * 1000000000)) + v3))
 )
 )

def fg (n : Nat) (x' : ai) (y : ai) : Option (ai) :=
 bdO (bk n x') fun v1 => (
 bdO (bk n y) fun v3 => (
 bdO (aO (α := List Int × List Int) (β := List Int × List Int) n (fun again16 (a_5, b_6) => (
 cdO (decide ((b_6.length : Int) > 0)) (
 cdO (decide ((a_5.length : Int) > 2)) (
 bdO (dB n a_5 b_6) fun v19 => (
 again16 (b_6, v19.2)
 )
 ) (
 cdO (decide ((b_6.length : Int) > 2)) (
 bdO (dB n a_5 b_6) fun v22 => (
 again16 (b_6, v22.2)
 )
 ) (
 some ((a_5, b_6))
 )
 )
 ) (
 some ((a_5, b_6))
 )
 )) (v1.Groups, v3.Groups)) fun o24 => (
 match o24 with
 | (a_14, b_15) => (
 cdO (((b_15.length : Int) : Int) == 0) (
 bdO (a7 n false a_14) fun v28 => (
 some (v28)
 )
 ) (
 bdO (dL n a_14) fun v30 => (
 bdO (dL n b_15) fun v32 => (
 bdO (aO (α := Int × Int) (β := Int) n (fun again39 (u_34, v_35) => (
 cdO (decide (v_35 > 0)) (
 gdO (!decide (v_35 = 0)) (
 again39 (v_35, u_34.tmod v_35)
 )
 ) (
 some (u_34)
 )
 )) (v30, v32)) fun u_38 => (
 bdO (a7 n false [(aa .u32 (u_38.tmod 1000000000)), (aa .u32 (aa .u64 (u_38.tdiv 1000000000)))]) fun v45 => (
 some (v45)
 )
 )
 )
 )
 )
 ))
 )
 )

def fb (n : Nat) (x' : ai) : Option (ai) :=
 bdO (bk n x') fun v1 => (
 bdO (a7 n (!v1.Negative) v1.Groups) fun v3 => (
 some (v3)
 )
 )

def gI (n : Nat) (a : List Int) (b : List Int) : Option (List Int) :=
 bdO (aO (α := List Int × Int × Int) (β := List Int × Int) n (fun again20 (o_1, c_2, i_3) => (
 cdO (decide (i_3 < (a.length : Int))) (
 bdO (bb n a i_3) fun v22 => (
 bdO (bb n b i_3) fun v24 => (
 gdO (decide ((o_1.length + 1) * 4 <= 140737488355328)) (
 gdO (decide (o_1.length + 1 <= 4611686018427387904)) (
 again20 (o_1 ++ [aa .u32 ((aa .u64 ((aa .u64 (v22 + v24)) + c_2)).tmod 1000000000)], aa .u64 ((aa .u64 ((aa .u64 (v22 + v24)) + c_2)).tdiv 1000000000), CT (i_3 + 1))
 )
 )
 )
 )
 ) (
 cdO (decide (i_3 < (b.length : Int))) (
 bdO (bb n a i_3) fun v29 => (
 bdO (bb n b i_3) fun v31 => (
 gdO (decide ((o_1.length + 1) * 4 <= 140737488355328)) (
 gdO (decide (o_1.length + 1 <= 4611686018427387904)) (
 again20 (o_1 ++ [aa .u32 ((aa .u64 ((aa .u64 (v29 + v31)) + c_2)).tmod 1000000000)], aa .u64 ((aa .u64 ((aa .u64 (v29 + v31)) + c_2)).tdiv 1000000000), CT (i_3 + 1))
 )
 )
 )
 )
 ) (
 some ((o_1, c_2))
 )
 )
 )) ([], 0, 0)) fun o35 => (
 match o35 with
 | (o_18, c_19) => (
 gdO (decide ((o_18.length + 1) * 4 <= 140737488355328)) (
 gdO (decide (o_18.length + 1 <= 4611686018427387904)) (
 bdO (a7 n false (o_18 ++ [aa .u32 c_19])) fun v40 => (
 some (v40.Groups)
 )
 )
 )
 ))

def fQ (n : Nat) (x' : ai) (y : ai) : Option (ai) :=
 bdO (bk n x') fun v1 => (
 bdO (bk n y) fun v3 => (
 cdO (v1.Negative == v3.Negative) (
 bdO (gI n v1.Groups v3.Groups) fun v6 => (
 bdO (a7 n v1.Negative v6) fun v8 => (
 some (v8)
 )
 )
 ) (
 bdO (dk n v1.Groups v3.Groups) fun v10 => (
 cdO (decide (v10 >= 0)) (
 bdO (cw n v1.Groups v3.Groups) fun v13 => (
 bdO (a7 n v1.Negative v13) fun v15 => (
 some (v15)
 )
 )
 ) (
 bdO (cw n v3.Groups v1.Groups) fun v17 => (
 bdO (a7 n v3.Negative v17) fun v19 => (
 some (v19)
 )
 )
 )
 )
 )
 )
 )

def c9 (n : Nat) (x' : ai) (y : ai) : Option (ai) :=
 bdO (fb n y) fun v1 => (
 bdO (fQ n x' v1) fun v3 => (
 some (v3)
 )
 )

def bO (n : Nat) (x' : ai) (y : ai) : Option (ai) :=
 bdO (bk n x') fun v1 => (
 bdO (bk n y) fun v3 => (
 gdO (decide (0 <= CT ((v1.Groups.length : Int) + (v3.Groups.length : Int)))) (
 gdO (decide ((4 : Int) * (CT ((v1.Groups.length : Int) + (v3.Groups.length : Int))) <= 281474976710656)) (
 gdO (decide (CT ((v1.Groups.length : Int) + (v3.Groups.length : Int)) <= 9223372036854775807)) (
 bdO (aO (α := List Int × Int) (β := List Int) n (fun again30 (o_8, i_9) => (
 cdO (decide (i_9 < (v1.Groups.length : Int))) (
 bdO (aO (α := List Int × Int × Int) (β := List Int × Int) n (fun again41 (o_32, c_33, j_34) => (
 cdO (decide (j_34 < (v3.Groups.length : Int))) (
 gdO (inR (CT (i_9 + j_34)) o_32.length) (
 gdO (inR i_9 v1.Groups.length) (
 gdO (inR j_34 v3.Groups.length) (
 again41 (o_32.set (CT (i_9 + j_34)).toNat (aa .u32 ((aa .u64 ((aa .u64 ((aa .u64 (gt o_32 (CT (i_9 + j_34)))) + (aa .u64 ((aa .u64 (gt v1.Groups i_9)) * (aa .u64 (gt v3.Groups j_34)))))) + c_33)).tmod 1000000000)), aa .u64 ((aa .u64 ((aa .u64 ((aa .u64 (gt o_32 (CT (i_9 + j_34)))) + (aa .u64 ((aa .u64 (gt v1.Groups i_9)) * (aa .u64 (gt v3.Groups j_34)))))) + c_33)).tdiv 1000000000), CT (j_34 + 1))
 )
 )
 )
 ) (
 some ((o_32, c_33))
 )
 )) (o_8, 0, 0)) fun o46 => (
 match o46 with
 | (o_39, c_40) => (
 gdO (inR (CT (i_9 + (v3.Groups.length : Int))) o_39.length) (
 again30 (o_39.set (CT (i_9 + (v3.Groups.length : Int))).toNat (aa .u32 c_40), CT (i_9 + 1))
 )
 ))
 ) (
 some (o_8)
 )
 )) (List.replicate (CT ((v1.Groups.length : Int) + (v3.Groups.length : Int))).toNat ((0 : Int) : Int), 0)) fun o_29 => (
 bdO (a7 n (v1.Negative != v3.Negative) o_29) fun v53 => (
 some (v53)
 )
 )
 )
 )
 )
 )
 )

def de (n : Nat) (x' : ai) (y : ai) : Option (ai × ai × Int) :=
 bdO (bk n x') fun v1 => (
 bdO (bk n y) fun v3 => (
 cdO (((v3.Groups.length : Int) : Int) == 0) (
 some ((ai.mk false [], ai.mk false [], 14))
 ) (
 bdO (dB n v1.Groups v3.Groups) fun v6 => (
 bdO (a7 n (v1.Negative != v3.Negative) v6.1) fun v8 => (
 cdO (v1.Negative != v3.Negative) (
 cdO (decide ((v6.2.length : Int) > 0)) (
 bdO (gv n 1) fun v12 => (
 bdO (c9 n v8 v12) fun v14 => (
 bdO (bO n v14 v3) fun v16 => (
 bdO (c9 n v1 v16) fun v18 => (
 some ((v14, v18, 0))
 )
 )
 )
 )
 ) (
 bdO (bO n v8 v3) fun v20 => (
 bdO (c9 n v1 v20) fun v22 => (
 some ((v8, v22, 0))
 )
 )
 )
 ) (
 bdO (bO n v8 v3) fun v24 => (
 bdO (c9 n v1 v24) fun v26 => (
 some ((v8, v26, 0))
 )
 )
 )
 )
 )
 )
 )
 )

def dE (n : Nat) (num : ai) (den : ai) : Option (ak) :=
 bdO (fg n num den) fun v1 => (
 bdO (cn n den) fun v3 => (
 cdO (decide (v3 < 0)) (
 bdO (fb n v1) fun v6 => (
 bdO (de n num v6) fun v8 => (
 bdO (de n den v6) fun v10 => (
 some (ak.mk v8.1 v10.1)
 )
 )
 )
 ) (
 bdO (de n num v1) fun v12 => (
 bdO (de n den v1) fun v14 => (
 some (ak.mk v12.1 v14.1)
 )
 )
 )
 )
 )

def kR (n : Nat) (num : ai) (den : ai) : Option (ak × Int) :=
 bdO (cn n den) fun v1 => (
 cdO ((v1 : Int) == 0) (
 some ((ak.mk (ai.mk false []) (ai.mk false []), 14))
 ) (
 bdO (dE n num den) fun v4 => (
 some ((v4, 0))
 )
 )
 )

def lL (n : Nat) (n' : Int) (d : Int) : Option (ak × Int) :=
 bdO (b7 n n') fun v1 => (
 bdO (b7 n d) fun v3 => (
 bdO (kR n v1 v3) fun v5 => (
 some ((v5.1, v5.2))
 )
 )
 )

def dD (n : Nat) (x' : ai) (y : ai) : Option (Int) :=
 bdO (c9 n x' y) fun v1 => (
 bdO (cn n v1) fun v3 => (
 some (v3)
 )
 )

def bE (n : Nat) (x' : ak) : Option (Bool) :=
 bdO (ct n x'.Num) fun v1 => (
 cdO (!v1) (
 some (false)
 ) (
 bdO (ct n x'.Den) fun v4 => (
 cdO (!v4) (
 some (false)
 ) (
 bdO (cn n x'.Den) fun v7 => (
 cdO (decide (v7 <= 0)) (
 some (false)
 ) (
 bdO (fg n x'.Num x'.Den) fun v10 => (
 bdO (b7 n 1) fun v12 => (
 bdO (dD n v10 v12) fun v14 => (
 some ((v14 : Int) == 0)
 )
 )
 )
 )
 )
 )
 )
 )
 )

def bU (n : Nat) (n' : Int) : Option (ak) :=
 bdO (b7 n n') fun v1 => (
 bdO (b7 n 1) fun v3 => (
 some (ak.mk v1 v3)
 )
 )

def cM (n : Nat) (x' : ak) : Option (ak) :=
 bdO (bE n x') fun v1 => (
 cdO v1 (
 some (x')
 ) (
 bdO (bU n 0) fun v4 => (
 some (v4)
 )
 )
 )

def ig (n : Nat) (x' : ak) : Option (ak) :=
 bdO (cM n x') fun v1 => (
 bdO (fb n v1.Num) fun v3 => (
 some (ak.mk v3 v1.Den)
 )
 )

def bY (n : Nat) (x' : ak) (y : ak) : Option (ak) :=
 bdO (cM n x') fun v1 => (
 bdO (cM n y) fun v3 => (
 bdO (bO n v1.Num v3.Den) fun v5 => (
 bdO (bO n v3.Num v1.Den) fun v7 => (
 bdO (fQ n v5 v7) fun v9 => (
 bdO (bO n v1.Den v3.Den) fun v11 => (
 bdO (dE n v9 v11) fun v13 => (
 some (v13)
 )
 )
 )
 )
 )
 )
 )

def bZ (n : Nat) (x' : ak) (y : ak) : Option (ak) :=
 bdO (ig n y) fun v1 => (
 bdO (bY n x' v1) fun v3 => (
 some (v3)
 )
 )

def cS (n : Nat) (x' : ak) : Option (Int) :=
 bdO (cM n x') fun v1 => (
 bdO (cn n v1.Num) fun v3 => (
 some (v3)
 )
 )

def cJ (n : Nat) (x' : ak) (y : ak) : Option (Int) :=
 bdO (bZ n x' y) fun v1 => (
 bdO (cS n v1) fun v3 => (
 some (v3)
 )
 )

def cI (n : Nat) (x' : ak) (y : ak) : Option (Bool) :=
 bdO (bE n x') fun v1 => (
 cdO v1 (
 bdO (bE n y) fun v4 => (
 cdO v4 (
 bdO (cJ n x' y) fun v7 => (
 some ((v7 : Int) == 0)
 )
 ) (
 some (false)
 )
 )
 ) (
 some (false)
 )
 )

def b9 (n : Nat) (n' : Int) : Option (List al) :=
 gdO (!(decide (n' < 0))) (
 cdO (decide ((CT (n' - 0)) > 0)) (
 gdO (decide (0 < (CT (n' - 0)))) (
 gdO (decide ((CT (n' - 0)) <= 4611686018427387904)) (
 gdO (decide ((CT (n' - 0)).toNat * 80 <= 140737488355328)) (
 gdO (inS 0 0 (CT (n' - 0)).toNat) (
 some (([] : List al))
 )
 )
 )
 )
 ) (
 some ([])
 )
 )

def cb (n : Nat) (slices : List (List al)) : Option (List al) :=
 bdO (aO (α := Int × Int) (β := Int) n (fun again7 (s_1, x_2) => (
 cdO (decide (x_2 < (slices.length : Int))) (
 gdO (inR x_2 slices.length) (
 gdO (!(decide ((CT (s_1 + ((gt slices x_2).length : Int))) < 0))) (
 again7 (CT (s_1 + ((gt slices x_2).length : Int)), CT (x_2 + 1))
 )
 )
 ) (
 some (s_1)
 )
 )) (0, 0)) fun s_6 => (
 bdO (b9 n s_6) fun v14 => (
 bdO (aO (α := List al × Int) (β := List al) n (fun again23 (n_16, x_17) => (
 cdO (decide (x_17 < (slices.length : Int))) (
 gdO (inR x_17 slices.length) (
 gdO (decide ((n_16.length + (gt slices x_17).length) * 80 <= 140737488355328)) (
 gdO (decide (n_16.length + (gt slices x_17).length <= 4611686018427387904)) (
 again23 (n_16 ++ (gt slices x_17), CT (x_17 + 1))
 )
 )
 )
 ) (
 some (n_16)
 )
 )) (v14, 0)) fun n_22 => (
 some (n_22)
 )
 )
 )

def nk (n : Nat) (c : ah) : Option (ah) :=
 cdO (!c.Closed) (
 some (c)
 ) (
 bdO (aO (α := Int × Int) (β := Int) n (fun again34 (a_24, x_25) => (
 cdO (decide (x_25 < (c.Points.length : Int))) (
 gdO (inR x_25 c.Points.length) (
 gdO (inR a_24 c.Points.length) (
 bdO (gV n (A2.mk (gt c.Points x_25).A (gt c.Points x_25).B) (A2.mk (gt c.Points a_24).A (gt c.Points a_24).B)) fun v39 => (
 cdO (decide (v39 < 0)) (
 again34 (x_25, CT (x_25 + 1))
 ) (
 again34 (a_24, CT (x_25 + 1))
 )
 )
 )
 )
 ) (
 some (a_24)
 )
 )) (0, 0)) fun a_33 => (
 gdO (inS a_33 (c.Points.length : Int) c.Points.length) (
 gdO (inS 0 a_33 c.Points.length) (
 bdO (cb n [((c.Points.drop a_33.toNat).take ((c.Points.length : Int).toNat - a_33.toNat)), ((c.Points.drop (0 : Int).toNat).take (a_33.toNat - (0 : Int).toNat))]) fun v47 => (
 some (ah.mk true v47)
 )
 )
 )
 )
 )

def my (n : Nat) (a : ah) (b : ah) : Option (Int) :=
 bdO (gp n a) fun v1 => (
 bdO (gp n b) fun v3 => (
 bdO (gV n v1 v3) fun v5 => (
 some (v5)
 )
 )
 )

def bu (n : Nat) (data : List ah) (a : Int) (b : Int) : Option (List ah) :=
 bdO (aO (α := List ah × Int) (β := List ah) n (fun again72 (d_49, i_50) => (
 cdO (decide (i_50 < b)) (
 bdO (aO (α := List ah × Int) (β := List ah) n (fun again83 (d_74, j_75) => (
 cdO (decide (j_75 > a)) (
 gdO (inR j_75 d_74.length) (
 gdO (inR (CT (j_75 - 1)) d_74.length) (
 bdO (my n (gt d_74 j_75) (gt d_74 (CT (j_75 - 1)))) fun v87 => (
 cdO (decide (v87 < 0)) (
 again83 ((d_74.set j_75.toNat (gt d_74 (CT (j_75 - 1)))).set (CT (j_75 - 1)).toNat (gt d_74 j_75), CT (j_75 - 1))
 ) (
 some (d_74)
 )
 )
 )
 )
 ) (
 some (d_74)
 )
 )) (d_49, i_50)) fun d_82 => (
 again72 (d_82, CT (i_50 + 1))
 )
 ) (
 some (d_49)
 )
 )) (data, CT (a + 1))) fun d_71 => (
 some (d_71)
 )

def bM (n : Nat) (data : List ah) (a : Int) (b : Int) (limit : Int) : Option (List ah) :=
 bdO (aO (α := Int × Int × Int × Bool × Bool) (β := List ah) n (fun again31 (a_21, b_22, l_23, w_24, w_25) => (
 gdO ((decide ((CT (b_22 - a_21)) <= 12))) (
 bdO (bu n data a_21 b_22) fun v33 => (
 some (v33)
 )
 )
 )) (a, b, limit, true, true)) fun r0 => (
 some r0
 )

def bh (n : Nat) (x' : List ah) : Option (List ah) :=
 bdO (j2 n (aa .u64 (x'.length : Int))) fun v6 => (
 bdO (bM n x' 0 (x'.length : Int) v6) fun v8 => (
 some (v8)
 )
 )

def m5 (n : Nat) (p : al) (q : al) : Option (Bool) :=
 cdO ((p.A : Int) == q.A) (
 cdO ((p.B : Int) == q.B) (
 bdO (c6 n p.At) fun v3 => (
 cdO v3 (
 bdO (c6 n q.At) fun v6 => (
 cdO v6 (
 bdO (eS n p.At q.At) fun v9 => (
 some ((v9 : Int) == 0)
 )
 ) (
 some (false)
 )
 )
 ) (
 some (false)
 )
 )
 ) (
 some (false)
 )
 ) (
 some (false)
 )

def aQ (n : Nat) (s1 : List al) (s2 : List al) : Option (Bool) :=
 cdO (((s1.length : Int) : Int) != (s2.length : Int)) (
 some (false)
 ) (
 bdO (aO (α := Int) (β := Sum (Unit) (Bool)) n (fun again9 x_2 => (
 cdO (decide (x_2 < (s1.length : Int))) (
 gdO (inR x_2 s1.length) (
 gdO (inR x_2 s2.length) (
 bdO (m5 n (gt s1 x_2) (gt s2 x_2)) fun v13 => (
 cdO (!v13) (
 some (Sum.inr (false))
 ) (
 again9 (CT (x_2 + 1))
 )
 )
 )
 )
 ) (
 some (Sum.inl ())
 )
 )) 0) fun o16 => (
 match o16 with
 | .inl _ => (
 some (true)
 )
 | .inr (r0) => (
 some r0
 ))
 )

def oJ (n : Nat) (a : ah) (b : ah) : Option (Bool) :=
 cdO (a.Closed == b.Closed) (
 bdO (aQ n a.Points b.Points) fun v2 => (
 some (v2)
 )
 ) (
 some (false)
 )

def aS (n : Nat) (s1 : List ah) (s2 : List ah) : Option (Bool) :=
 cdO (((s1.length : Int) : Int) != (s2.length : Int)) (
 some (false)
 ) (
 bdO (aO (α := Int) (β := Sum (Unit) (Bool)) n (fun again9 x_2 => (
 cdO (decide (x_2 < (s1.length : Int))) (
 gdO (inR x_2 s1.length) (
 gdO (inR x_2 s2.length) (
 bdO (oJ n (gt s1 x_2) (gt s2 x_2)) fun v13 => (
 cdO (!v13) (
 some (Sum.inr (false))
 ) (
 again9 (CT (x_2 + 1))
 )
 )
 )
 )
 ) (
 some (Sum.inl ())
 )
 )) 0) fun o16 => (
 match o16 with
 | .inl _ => (
 some (true)
 )
 | .inr (r0) => (
 some r0
 ))
 )

noncomputable def j5 (n : Nat) (g : an) (level : Int) (l : List ah) : Option (Int) :=
 bdO (gF n g level) fun v1 => (
 cdO ((v1 : Int) != 0) (
 some (v1)
 ) (
 bdO (aO (α := List ah × Int) (β := Sum (List ah) (Int)) n (fun again16 (g_5, x_6) => (
 cdO (decide (x_6 < (l.length : Int))) (
 gdO (inR x_6 l.length) (
 cdO ((((gt l x_6).Points.length : Int) : Int) == 0) (
 some (Sum.inr (12))
 ) (
 bdO (nk n (gt l x_6)) fun v21 => (
 gdO (decide ((g_5.length + 1) * 32 <= 140737488355328)) (
 gdO (decide (g_5.length + 1 <= 4611686018427387904)) (
 again16 (g_5 ++ [v21], CT (x_6 + 1))
 )
 )
 )
 )
 )
 ) (
 some (Sum.inl g_5)
 )
 )) ([], 0)) fun o25 => (
 match o25 with
 | .inl g_15 => (
 bdO (bh n g_15) fun v28 => (
 gdO (decide (v28.length = g_15.length)) (
 bdO (iw n g level) fun v31 => (
 bdO (aS n v28 v31) fun v33 => (
 cdO (!v33) (
 some (12)
 ) (
 some (0)
 )
 )
 )
 )
 )
 )
 | .inr (r0) => (
 some r0
 ))
 )
 )

noncomputable def ga (n : Nat) : Option (Bool) :=
 bdO (dC n) fun v1 => (
 bdO (ka n v1 1) fun v3 => (
 cdO ((v3.2 : Int) != 0) (
 some (false)
 ) (
 cdO (((v3.1.length : Int) : Int) != 1) (
 some (false)
 ) (
 gdO (inR 0 v3.1.length) (
 cdO (!(gt v3.1 0).Closed) (
 some (false)
 ) (
 cdO ((((gt v3.1 0).Points.length : Int) : Int) != 6) (
 some (false)
 ) (
 gdO (inR 1 (gt v3.1 0).Points.length) (
 cdO (((gt (gt v3.1 0).Points 1).A : Int) != 1) (
 some (false)
 ) (
 cdO (((gt (gt v3.1 0).Points 1).B : Int) != 4) (
 some (false)
 ) (
 bdO (dC n) fun v13 => (
 bdO (nQ n v13 1) fun v15 => (
 bdO (dC n) fun v17 => (
 bdO (nU n v17 (gt v3.1 0) 1 1) fun v19 => (
 bdO (lL n 147 16) fun v21 => (
 cdO ((v15.2 : Int) == 0) (
 cdO ((v19.2 : Int) == 0) (
 cdO ((v19.1 : Int) == 1) (
 bdO (cI n v15.1 v21.1) fun v26 => (
 cdO v26 (
 bdO (dC n) fun v29 => (
 bdO (j5 n v29 1 v3.1) fun v31 => (
 some ((v31 : Int) == 0)
 )
 )
 ) (
 some (false)
 )
 )
 ) (
 some (false)
 )
 ) (
 some (false)
 )
 ) (
 some (false)
 )
 )
 )
 )
 )
 )
 )
 )
 )
 )
 )
 )
 )
 )
 )
 )

def kM (n : Nat) (g : an) (n' : Int) : Option (Bool) :=
 some (decide ((g.Z.length : Int) <= n'))

def fM (n : Nat) (x' : ak) : Option (Int) :=
 some (CT ((x'.Num.Groups.length : Int) + (x'.Den.Groups.length : Int)))

def im (n : Nat) (g : an) (c : al) : Option (az × Int) :=
 bdO (iy n g) fun v1 => (
 cdO ((v1 : Int) != 0) (
 some ((az.mk (ak.mk (ai.mk false []) (ai.mk false [])) (ak.mk (ai.mk false []) (ai.mk false [])), v1))
 ) (
 bdO (ir n g c) fun v4 => (
 some ((v4.1, v4.2))
 )
 )
 )

def ew (n : Nat) (n' : Int) : Option (Bool) :=
 cdO (decide (n' < (-1048576))) (
 some (true)
 ) (
 some (decide (n' > 1048576))
 )

def fY (n : Nat) (g : an) : Option (Int) :=
 cdO (decide (g.Width < 2)) (
 some (2)
 ) (
 cdO (decide (g.Width > 64)) (
 some (2)
 ) (
 cdO (decide (g.Height < 2)) (
 some (2)
 ) (
 cdO (decide (g.Height > 64)) (
 some (2)
 ) (
 cdO (decide (g.Step < 2)) (
 some (2)
 ) (
 cdO (decide (g.Step > 65536)) (
 some (2)
 ) (
 cdO (((g.Step.tmod 2) : Int) != 0) (
 some (2)
 ) (
 bdO (ew n g.X0) fun v8 => (
 cdO v8 (
 some (2)
 ) (
 bdO (ew n g.Y0) fun v11 => (
 cdO v11 (
 some (2)
 ) (
 cdO (((g.Z.length : Int) : Int) != (CT (g.Width * g.Height))) (
 some (4)
 ) (
 bdO (aO (α := Int) (β := Sum (Unit) (Int)) n (fun again22 x_15 => (
 cdO (decide (x_15 < (g.Z.length : Int))) (
 gdO (inR x_15 g.Z.length) (
 cdO (((gt g.Z x_15) : Int) != (-2147483648)) (
 bdO (ew n (gt g.Z x_15)) fun v26 => (
 cdO v26 (
 some (Sum.inr (2))
 ) (
 again22 (CT (x_15 + 1))
 )
 )
 ) (
 again22 (CT (x_15 + 1))
 )
 )
 ) (
 some (Sum.inl ())
 )
 )) 0) fun o29 => (
 match o29 with
 | .inl _ => (
 some (0)
 )
 | .inr (r0) => (
 some r0
 ))
 )
 )
 )
 )
 )
 )
 )
 )
 )
 )
 )
 )

def eO (n : Nat) (g : an) : Option (List (A3 Int)) :=
 bdO (aO (α := List (A3 Int) × Int) (β := List (A3 Int)) n (fun again76 (l_1, x_2) => (
 cdO (decide (x_2 < (CT (g.Height - 1)))) (
 bdO (aO (α := List (A3 Int) × Int) (β := List (A3 Int)) n (fun again113 (l_78, x_79) => (
 cdO (decide (x_79 < (CT (g.Width - 1)))) (
 bdO (some (CT ((CT (x_2 * g.Width)) + x_79))) fun w115 => (
 bdO (some [A3.mk w115 (CT (w115 + 1)) (CT ((CT (w115 + g.Width)) + 1)), A3.mk w115 (CT ((CT (w115 + g.Width)) + 1)) (CT (w115 + g.Width))]) fun w117 => (
 bdO (aO (α := List (A3 Int) × Int) (β := List (A3 Int)) n (fun again132 (l_119, x_120) => (
 cdO (decide (x_120 < 2)) (
 gdO (inR x_120 w117.length) (
 gdO (inR (gt w117 x_120).e0 g.Z.length) (
 cdO (((gt g.Z (gt w117 x_120).e0) : Int) != (-2147483648)) (
 gdO (inR (gt w117 x_120).e1 g.Z.length) (
 cdO (((gt g.Z (gt w117 x_120).e1) : Int) != (-2147483648)) (
 gdO (inR (gt w117 x_120).e2 g.Z.length) (
 cdO (((gt g.Z (gt w117 x_120).e2) : Int) != (-2147483648)) (
 gdO (decide ((l_119.length + 1) * 24 <= 140737488355328)) (
 gdO (decide (l_119.length + 1 <= 4611686018427387904)) (
 again132 (l_119 ++ [(gt w117 x_120)], CT (x_120 + 1))
 )
 )
 ) (
 again132 (l_119, CT (x_120 + 1))
 )
 )
 ) (
 again132 (l_119, CT (x_120 + 1))
 )
 )
 ) (
 again132 (l_119, CT (x_120 + 1))
 )
 )
 )
 ) (
 some (l_119)
 )
 )) (l_78, 0)) fun l_131 => (
 again113 (l_131, CT (x_79 + 1))
 )
 )
 )
 ) (
 some (l_78)
 )
 )) (l_1, 0)) fun l_112 => (
 again76 (l_112, CT (x_2 + 1))
 )
 ) (
 some (l_1)
 )
 )) ([], 0)) fun l_75 => (
 some (l_75)
 )

def gC (n : Nat) (a : Int) (b : Int) : Option (A2 Int) :=
 some (A2.mk (mn a b) (mx a b))

def b8 (n : Nat) (g : an) (k : Int) : Option (az) :=
 gdO (!decide (g.Width = 0)) (
 bdO (bU n (CT (g.X0 + (CT ((k.tmod g.Width) * g.Step))))) fun v2 => (
 bdO (bU n (CT (g.Y0 + (CT ((CT (k.tdiv g.Width)) * g.Step))))) fun v4 => (
 some (az.mk v2 v4)
 )
 )
 )

def cm (n : Nat) (x' : ak) (y : ak) : Option (ak) :=
 bdO (cM n x') fun v1 => (
 bdO (cM n y) fun v3 => (
 bdO (bO n v1.Num v3.Num) fun v5 => (
 bdO (bO n v1.Den v3.Den) fun v7 => (
 bdO (dE n v5 v7) fun v9 => (
 some (v9)
 )
 )
 )
 )
 )

def fj (n : Nat) (g : an) (c : al) : Option (az × Int) :=
 bdO (eO n g) fun v1 => (
 bdO (aO (α := Bool × Int) (β := Bool) n (fun again29 (f_3, x_4) => (
 cdO (decide (x_4 < (v1.length : Int))) (
 gdO (inR x_4 v1.length) (
 bdO (aO (α := Bool × Int) (β := Bool) n (fun again42 (f_32, x_33) => (
 cdO (decide (x_33 < 3)) (
 cdO (decide (c.A < c.B)) (
 gdO (inR x_33 3) (
 gdO (inR ((CT (x_33 + 1)).tmod 3) 3) (
 bdO (gC n (A3.get (gt v1 x_4) x_33) (A3.get (gt v1 x_4) ((CT (x_33 + 1)).tmod 3))) fun v47 => (
 cdO (((v47.e0 : Int) == c.A) && (((v47.e1 : Int) == c.B) && true)) (
 again42 (true, CT (x_33 + 1))
 ) (
 again42 (f_32, CT (x_33 + 1))
 )
 )
 )
 )
 ) (
 again42 (f_32, CT (x_33 + 1))
 )
 ) (
 some (f_32)
 )
 )) (f_3, 0)) fun f_41 => (
 again29 (f_41, CT (x_4 + 1))
 )
 )
 ) (
 some (f_3)
 )
 )) (false, 0)) fun f_28 => (
 cdO (!f_28) (
 some ((az.mk (ak.mk (ai.mk false []) (ai.mk false [])) (ak.mk (ai.mk false []) (ai.mk false [])), 6))
 ) (
 bdO (bE n c.At) fun v57 => (
 cdO (!v57) (
 some ((az.mk (ak.mk (ai.mk false []) (ai.mk false [])) (ak.mk (ai.mk false []) (ai.mk false [])), 1))
 ) (
 bdO (cS n c.At) fun v60 => (
 cdO (decide (v60 < 0)) (
 some ((az.mk (ak.mk (ai.mk false []) (ai.mk false [])) (ak.mk (ai.mk false []) (ai.mk false [])), 2))
 ) (
 bdO (bU n 1) fun v63 => (
 bdO (cJ n c.At v63) fun v65 => (
 cdO (decide (v65 > 0)) (
 some ((az.mk (ak.mk (ai.mk false []) (ai.mk false [])) (ak.mk (ai.mk false []) (ai.mk false [])), 2))
 ) (
 bdO (b8 n g c.A) fun v68 => (
 bdO (b8 n g c.B) fun v70 => (
 bdO (bZ n v70.X v68.X) fun v72 => (
 bdO (cm n c.At v72) fun v74 => (
 bdO (bY n v68.X v74) fun v76 => (
 bdO (bZ n v70.Y v68.Y) fun v78 => (
 bdO (cm n c.At v78) fun v80 => (
 bdO (bY n v68.Y v80) fun v82 => (
 some ((az.mk v76 v82, 0))
 )
 )
 )
 )
 )
 )
 )
 )
 )
 )
 )
 )
 )
 )
 )
 )
 )
 )

def dm (n : Nat) (x' : ak) : Option (Bool) :=
 cdO (!x'.Num.Negative) (
 cdO (!x'.Den.Negative) (
 cdO (((x'.Num.Groups.length : Int) : Int) == 0) (
 some (((x'.Den.Groups.length : Int) : Int) == 0)
 ) (
 some (false)
 )
 ) (
 some (false)
 )
 ) (
 some (false)
 )

noncomputable def dF (n : Nat) (g : an) (c : al) : Option (Bool) :=
 bdO (ga n) fun v1 => (
 cdO (!v1) (
 some (false)
 ) (
 bdO (kM n g 40) fun v4 => (
 cdO (!v4) (
 some (true)
 ) (
 bdO (fM n c.At) fun v7 => (
 cdO (decide (v7 > 16)) (
 some (true)
 ) (
 bdO (im n g c) fun v10 => (
 bdO (fY n g) fun v12 => (
 cdO ((v12 : Int) == 0) (
 bdO (fj n g c) fun v15 => (
 cdO ((v15.2 : Int) != 0) (
 cdO ((v10.2 : Int) == v15.2) (
 bdO (dm n v10.1.X) fun v19 => (
 cdO v19 (
 bdO (dm n v10.1.Y) fun v22 => (
 some (v22)
 )
 ) (
 some (false)
 )
 )
 ) (
 some (false)
 )
 ) (
 cdO ((v10.2 : Int) == 0) (
 bdO (cI n v10.1.X v15.1.X) fun v25 => (
 cdO v25 (
 bdO (cI n v10.1.Y v15.1.Y) fun v28 => (
 some (v28)
 )
 ) (
 some (false)
 )
 )
 ) (
 some (false)
 )
 )
 )
 ) (
 cdO ((v12 : Int) != 0) (
 cdO ((v10.2 : Int) == v12) (
 bdO (dm n v10.1.X) fun v32 => (
 cdO v32 (
 bdO (dm n v10.1.Y) fun v35 => (
 some (v35)
 )
 ) (
 some (false)
 )
 )
 ) (
 some (false)
 )
 ) (
 cdO ((v10.2 : Int) == 0) (
 bdO (cI n v10.1.X (ak.mk (ai.mk false []) (ai.mk false []))) fun v38 => (
 cdO v38 (
 bdO (cI n v10.1.Y (ak.mk (ai.mk false []) (ai.mk false []))) fun v41 => (
 some (v41)
 )
 ) (
 some (false)
 )
 )
 ) (
 some (false)
 )
 )
 )
 )
 )
 )
 )
 )
 )
 )
 )
end Go.L
