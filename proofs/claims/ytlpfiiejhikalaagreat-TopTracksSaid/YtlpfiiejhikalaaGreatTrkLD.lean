
import Derived.Test.YtlpfiiejhikalaaGreatSc11Trks
import Derived.Test.YtlpfiiejhikalaaGreatScMTrks
import Derived.Test.YtlpfiiejhikalaaGreatScVTrks
import Derived.Test.YtlpfiiejhikalaaGreatScRTrks
import Derived.Test.YtlpfiiejhikalaaGreatScUTrks
import Derived.Test.YtlpfiiejhikalaaGreatScWTrks
import Derived.Test.YtlpfiiejhikalaaGreatScSTrks
set_option linter.all false
set_option maxRecDepth 100000
set_option maxHeartbeats 4000000
namespace Go.L
open Go Go.Eng
def eI : ByteArray := ⟨#[0, 1, 2, 2, 3, 3, 3, 3, 4, 4, 4, 4, 4, 4, 4, 4, 5, 5, 5, 5, 5, 5, 5, 5, 5, 5, 5, 5, 5, 5, 5, 5, 6, 6, 6, 6, 6, 6, 6, 6, 6, 6, 6, 6, 6, 6, 6, 6, 6, 6, 6, 6, 6, 6, 6, 6, 6, 6, 6, 6, 6, 6, 6, 6, 7, 7, 7, 7, 7, 7, 7, 7, 7, 7, 7, 7, 7, 7, 7, 7, 7, 7, 7, 7, 7, 7, 7, 7, 7, 7, 7, 7, 7, 7, 7, 7, 7, 7, 7, 7, 7, 7, 7, 7, 7, 7, 7, 7, 7, 7, 7, 7, 7, 7, 7, 7, 7, 7, 7, 7, 7, 7, 7, 7, 7, 7, 7, 7, 8, 8, 8, 8, 8, 8, 8, 8, 8, 8, 8, 8, 8, 8, 8, 8, 8, 8, 8, 8, 8, 8, 8, 8, 8, 8, 8, 8, 8, 8, 8, 8, 8, 8, 8, 8, 8, 8, 8, 8, 8, 8, 8, 8, 8, 8, 8, 8, 8, 8, 8, 8, 8, 8, 8, 8, 8, 8, 8, 8, 8, 8, 8, 8, 8, 8, 8, 8, 8, 8, 8, 8, 8, 8, 8, 8, 8, 8, 8, 8, 8, 8, 8, 8, 8, 8, 8, 8, 8, 8, 8, 8, 8, 8, 8, 8, 8, 8, 8, 8, 8, 8, 8, 8, 8, 8, 8, 8, 8, 8, 8, 8, 8, 8, 8, 8, 8, 8, 8, 8, 8, 8, 8, 8, 8, 8, 8, 8]⟩
structure ak where
 Width : Int
 Height : Int
 Max : Int
 Pixels : List Int
 deriving Inhabited

structure A4 (α : Type) where
 e0 : α
 e1 : α
 e2 : α
 e3 : α
 deriving Inhabited

structure aj where
 A : A4 Int
 B : A4 Int
 deriving Inhabited

structure A3 (α : Type) where
 e0 : α
 e1 : α
 e2 : α
 deriving Inhabited

def aj.c (x : aj) : List AV := [.at (.int .i64 x.A.e0), .at (.int .i64 x.A.e1), .at (.int .i64 x.A.e2), .at (.int .i64 x.A.e3), .at (.int .i64 x.B.e0), .at (.int .i64 x.B.e1), .at (.int .i64 x.B.e2), .at (.int .i64 x.B.e3)]
theorem aj.len : ∀ x, (aj.c x).length = 8 := fun _ => rfl
theorem aj.pure : ∀ x, cn (aj.c x) = [] := fun _ => rfl

structure aa where
 Image : Int
 Feature : Int
 deriving Inhabited, DecidableEq

structure ai where
 A : aa
 B : aa
 Cost : Int
 deriving Inhabited, DecidableEq

def ai.c (x : ai) : List AV := [.at (.int .i64 x.A.Image), .at (.int .i64 x.A.Feature), .at (.int .i64 x.B.Image), .at (.int .i64 x.B.Feature), .at (.int .i64 x.Cost)]
theorem ai.len : ∀ x, (ai.c x).length = 5 := fun _ => rfl
theorem ai.pure : ∀ x, cn (ai.c x) = [] := fun _ => rfl

def au.K (x : aa) : Value := .agg #[.int .i64 x.Image, .int .i64 x.Feature]
theorem au.key : th au.K := fun ⟨a0, a1⟩ ⟨b0, b1⟩ => by
 have h : ((⟨a0, a1⟩ : aa) == ⟨b0, b1⟩) = (a0 == b0 && (a1 == b1 && true)) := by rw [Bool.eq_iff_iff]; simp
 show some _ = some _
 rw [h]

def aa.c (x : aa) : List AV := [.at (.int .i64 x.Image), .at (.int .i64 x.Feature)]
theorem aa.len : ∀ x, (aa.c x).length = 2 := fun _ => rfl
theorem aa.pure : ∀ x, cn (aa.c x) = [] := fun _ => rfl

structure ah where
 X : Int
 Y : Int
 deriving Inhabited, DecidableEq

structure aG where
 f_raster : ak
 f_table : List (List Int)
 deriving Inhabited

structure aI where
 First : Int
 Second : Int
 Distance : Int
 deriving Inhabited

def ah.c (x : ah) : List AV := [.at (.int .i64 x.X), .at (.int .i64 x.Y)]
theorem ah.len : ∀ x, (ah.c x).length = 2 := fun _ => rfl
theorem ah.pure : ∀ x, cn (ah.c x) = [] := fun _ => rfl

def aI.c (x : aI) : List AV := [.at (.int .i64 x.First), .at (.int .i64 x.Second), .at (.int .i64 x.Distance)]
theorem aI.len : ∀ x, (aI.c x).length = 3 := fun _ => rfl
theorem aI.pure : ∀ x, cn (aI.c x) = [] := fun _ => rfl

def az.K (x : ah) : Value := .agg #[.int .i64 x.X, .int .i64 x.Y]
theorem az.key : th az.K := fun ⟨a0, a1⟩ ⟨b0, b1⟩ => by
 have h : ((⟨a0, a1⟩ : ah) == ⟨b0, b1⟩) = (a0 == b0 && (a1 == b1 && true)) := by rw [Bool.eq_iff_iff]; simp
 show some _ = some _
 rw [h]

def aG.c (x : aG) : List AV := [.at (.int .i64 x.f_raster.Width), .at (.int .i64 x.f_raster.Height), .at (.int .i64 x.f_raster.Max), slT (iC .i64) x.f_raster.Pixels, slT (slC (iC .i64)) x.f_table]
theorem aG.len : ∀ x, (aG.c x).length = 5 := fun _ => rfl
theorem aG.pure : ∀ x, cn (aG.c x) = [] := fun _ => rfl

def ak.c (x : ak) : List AV := [.at (.int .i64 x.Width), .at (.int .i64 x.Height), .at (.int .i64 x.Max), slT (iC .i64) x.Pixels]
theorem ak.len : ∀ x, (ak.c x).length = 4 := fun _ => rfl
theorem ak.pure : ∀ x, cn (ak.c x) = [] := fun _ => rfl

def bF (n : Nat) (i : Int) : Option (aa) :=
 some (aa.mk i 0)

def fI (n : Nat) (m' : aa) : Option (Bool) :=
 cdO (decide (m'.Image < 0)) (
 some (true)
 ) (
 cdO (decide (m'.Image >= 64)) (
 some (true)
 ) (
 cdO (decide (m'.Feature < 0)) (
 some (true)
 ) (
 some (decide (m'.Feature > 4095))
 )
 )
 )

def ir (n : Nat) (ties : List ai) : Option (Int) :=
 cdO (decide ((ties.length : Int) > 256)) (
 some (3)
 ) (
 bdO (aP (α := Int) (β := Sum (Unit) (Int)) n (fun again16 x_3 => (
 cdO (decide (x_3 < (ties.length : Int))) (
 gdO (inR x_3 ties.length) (
 bdO (fI n (gt ties x_3).A) fun v20 => (
 cdO v20 (
 some (Sum.inr (2))
 ) (
 bdO (fI n (gt ties x_3).B) fun v23 => (
 cdO v23 (
 some (Sum.inr (2))
 ) (
 cdO (decide ((gt ties x_3).Cost < 0)) (
 some (Sum.inr (2))
 ) (
 cdO (decide ((gt ties x_3).Cost > 1048576)) (
 some (Sum.inr (2))
 ) (
 cdO (decide ((gt ties x_3).A.Image >= (gt ties x_3).B.Image)) (
 some (Sum.inr (5))
 ) (
 again16 (Ew (x_3 + 1))
 )
 )
 )
 )
 )
 )
 )
 )
 ) (
 some (Sum.inl ())
 )
 )) 0) fun o29 => (
 match o29 with
 | .inl _ => (
 some (0)
 )
 | .inr (r0) => (
 some r0
 ))
 )

def jv (n : Nat) (x' : Int) : Option (Int) :=
 cdO (decide (x' >= 4294967296)) (
 cdO (decide ((x'.fdiv (2 ^ 32)) >= 65536)) (
 cdO (decide (((x'.fdiv (2 ^ 32)).fdiv (2 ^ 16)) >= 256)) (
 bdO (some (((x'.fdiv (2 ^ 32)).fdiv (2 ^ 16)).fdiv (2 ^ 8))) fun w4 => (
 gdO (inR (ae .u8 w4) 256) (
 some (Ew (56 + (Ew (fz eI (ae .u8 w4)))))
 )
 )
 ) (
 gdO (inR (ae .u8 ((x'.fdiv (2 ^ 32)).fdiv (2 ^ 16))) 256) (
 some (Ew (48 + (Ew (fz eI (ae .u8 ((x'.fdiv (2 ^ 32)).fdiv (2 ^ 16)))))))
 )
 )
 ) (
 cdO (decide ((x'.fdiv (2 ^ 32)) >= 256)) (
 gdO (inR (ae .u8 ((x'.fdiv (2 ^ 32)).fdiv (2 ^ 8))) 256) (
 some (Ew (40 + (Ew (fz eI (ae .u8 ((x'.fdiv (2 ^ 32)).fdiv (2 ^ 8)))))))
 )
 ) (
 gdO (inR (ae .u8 (x'.fdiv (2 ^ 32))) 256) (
 some (Ew (32 + (Ew (fz eI (ae .u8 (x'.fdiv (2 ^ 32)))))))
 )
 )
 )
 ) (
 cdO (decide (x' >= 65536)) (
 cdO (decide ((x'.fdiv (2 ^ 16)) >= 256)) (
 gdO (inR (ae .u8 ((x'.fdiv (2 ^ 16)).fdiv (2 ^ 8))) 256) (
 some (Ew (24 + (Ew (fz eI (ae .u8 ((x'.fdiv (2 ^ 16)).fdiv (2 ^ 8)))))))
 )
 ) (
 gdO (inR (ae .u8 (x'.fdiv (2 ^ 16))) 256) (
 some (Ew (16 + (Ew (fz eI (ae .u8 (x'.fdiv (2 ^ 16)))))))
 )
 )
 ) (
 cdO (decide (x' >= 256)) (
 gdO (inR (ae .u8 (x'.fdiv (2 ^ 8))) 256) (
 some (Ew (8 + (Ew (fz eI (ae .u8 (x'.fdiv (2 ^ 8)))))))
 )
 ) (
 gdO (inR (ae .u8 x') 256) (
 some (Ew (0 + (Ew (fz eI (ae .u8 x')))))
 )
 )
 )
 )

def dO (n : Nat) (x' : Int) : Option (Int) :=
 bdO (jv n x') fun v1 => (
 some (v1)
 )

def cmp_isNaN_int (n : Nat) (x' : Int) : Option (Bool) :=
 some ((x' : Int) != x')

def fP (n : Nat) (x' : Int) (y : Int) : Option (Int) :=
 bdO (cmp_isNaN_int n x') fun v1 => (
 bdO (cmp_isNaN_int n y) fun v3 => (
 cdO v1 (
 cdO v3 (
 some (0)
 ) (
 some ((-1))
 )
 ) (
 cdO v3 (
 some (1)
 ) (
 cdO (decide (x' < y)) (
 some ((-1))
 ) (
 cdO (decide (x' > y)) (
 some (1)
 ) (
 some (0)
 )
 )
 )
 )
 )
 )

def eD (n : Nat) (s1 : List Int) (s2 : List Int) : Option (Int) :=
 bdO (aP (α := Int) (β := Sum (Unit) (Int)) n (fun again9 x_1 => (
 cdO (decide (x_1 < (s1.length : Int))) (
 gdO (inR x_1 s1.length) (
 cdO (decide (x_1 >= (s2.length : Int))) (
 some (Sum.inr (1))
 ) (
 gdO (inR x_1 s2.length) (
 bdO (fP n (gt s1 x_1) (gt s2 x_1)) fun v14 => (
 cdO ((v14 : Int) != 0) (
 some (Sum.inr (v14))
 ) (
 again9 (Ew (x_1 + 1))
 )
 )
 )
 )
 )
 ) (
 some (Sum.inl ())
 )
 )) 0) fun o17 => (
 match o17 with
 | .inl _ => (
 cdO (decide ((s1.length : Int) < (s2.length : Int))) (
 some ((-1))
 ) (
 some (0)
 )
 )
 | .inr (r0) => (
 some r0
 ))

def de (n : Nat) (a : aa) (b : aa) : Option (Int) :=
 bdO (eD n [a.Image, a.Feature] [b.Image, b.Feature]) fun v1 => (
 some (v1)
 )

def fg (n : Nat) (a : ai) (b : ai) : Option (Int) :=
 cdO ((a.Cost : Int) != b.Cost) (
 some (Ew (a.Cost - b.Cost))
 ) (
 bdO (de n a.A b.A) fun v3 => (
 cdO ((v3 : Int) != 0) (
 some (v3)
 ) (
 bdO (de n a.B b.B) fun v6 => (
 some (v6)
 )
 )
 )
 )

def bj (n : Nat) (s : List ai) : Option (List ai) :=
 gdO (decide ((0 + s.length) * 40 <= 140737488355328)) (
 gdO (decide (0 + s.length <= 4611686018427387904)) (
 some (s)
 )
 )

def aR (n : Nat) (x' : List ai) : Option (List ai) :=
 gdO (decide (x'.length < 4611686018427387904)) (
 pP (fun x y => fg n x y) x'
 )

def aW (n : Nat) (s : List ai) : Option (List ai) :=
 cdO (decide ((s.length : Int) < 2)) (
 some (s)
 ) (
 bdO (aP (α := Int) (β := Sum (Unit) (List ai)) n (fun again100 k_69 => (
 cdO (decide (k_69 < (s.length : Int))) (
 gdO (inR k_69 s.length) (
 gdO (inR (Ew (k_69 - 1)) s.length) (
 cdO (((((gt s k_69).A.Image : Int) == (gt s (Ew (k_69 - 1))).A.Image) && ((((gt s k_69).A.Feature : Int) == (gt s (Ew (k_69 - 1))).A.Feature) && true)) && (((((gt s k_69).B.Image : Int) == (gt s (Ew (k_69 - 1))).B.Image) && ((((gt s k_69).B.Feature : Int) == (gt s (Ew (k_69 - 1))).B.Feature) && true)) && ((((gt s k_69).Cost : Int) == (gt s (Ew (k_69 - 1))).Cost) && true))) (
 gdO (inS k_69 (s.length : Int) s.length) (
 bdO (aP (α := List ai × Int × Int) (β := List ai × Int) n (fun again118 (s_106, k_107, k2_108) => (
 cdO (decide (k2_108 < ((s.length - k_69.toNat : Nat) : Int))) (
 gdO (inR k2_108 (s.length - k_69.toNat)) (
 gdO (inR ((k_69.toNat + k2_108.toNat : Nat) : Int) s_106.length) (
 gdO (inR (Ew (k2_108 - 1)) (s.length - k_69.toNat)) (
 gdO (inR ((k_69.toNat + (Ew (k2_108 - 1)).toNat : Nat) : Int) s_106.length) (
 cdO (!(((((gt s_106 ((k_69.toNat + k2_108.toNat : Nat) : Int)).A.Image : Int) == (gt s_106 ((k_69.toNat + (Ew (k2_108 - 1)).toNat : Nat) : Int)).A.Image) && ((((gt s_106 ((k_69.toNat + k2_108.toNat : Nat) : Int)).A.Feature : Int) == (gt s_106 ((k_69.toNat + (Ew (k2_108 - 1)).toNat : Nat) : Int)).A.Feature) && true)) && (((((gt s_106 ((k_69.toNat + k2_108.toNat : Nat) : Int)).B.Image : Int) == (gt s_106 ((k_69.toNat + (Ew (k2_108 - 1)).toNat : Nat) : Int)).B.Image) && ((((gt s_106 ((k_69.toNat + k2_108.toNat : Nat) : Int)).B.Feature : Int) == (gt s_106 ((k_69.toNat + (Ew (k2_108 - 1)).toNat : Nat) : Int)).B.Feature) && true)) && ((((gt s_106 ((k_69.toNat + k2_108.toNat : Nat) : Int)).Cost : Int) == (gt s_106 ((k_69.toNat + (Ew (k2_108 - 1)).toNat : Nat) : Int)).Cost) && true)))) (
 gdO (inR k_107 s_106.length) (
 again118 (s_106.set k_107.toNat (gt s_106 ((k_69.toNat + k2_108.toNat : Nat) : Int)), Ew (k_107 + 1), Ew (k2_108 + 1))
 )
 ) (
 again118 (s_106, k_107, Ew (k2_108 + 1))
 )
 )
 )
 )
 )
 ) (
 some ((s_106, k_107))
 )
 )) (s, k_69, 1)) fun o126 => (
 match o126 with
 | (s_116, k_117) => (
 gdO (inS k_117 (s_116.length : Int) s_116.length) (
 gdO (inS 0 k_117 s_116.length) (
 some (Sum.inr (((fZ s_116 k_117.toNat (List.replicate (s_116.length - k_117.toNat) (ai.mk (aa.mk 0 0) (aa.mk 0 0) 0))).take k_117.toNat)))
 )
 )
 ))
 )
 ) (
 again100 (Ew (k_69 + 1))
 )
 )
 )
 ) (
 some (Sum.inl ())
 )
 )) 1) fun o131 => (
 match o131 with
 | .inl _ => (
 some (s)
 )
 | .inr (r0) => (
 some r0
 ))
 )

def ck (n : Nat) (c : List ai) (c' : List (aa × Int)) (c'' : List aa) (ni : List Int) (nz : List Int) (m' : aa) : Option (List (aa × Int) × List aa × List Int × List Int) :=
 cdO (cW c' m') (
 some ((c', c'', ni, nz))
 ) (
 gdO (decide ((ni.length + 1) * 8 <= 140737488355328)) (
 gdO (decide (ni.length + 1 <= 4611686018427387904)) (
 gdO (decide ((c''.length + 1) * 16 <= 140737488355328)) (
 gdO (decide (c''.length + 1 <= 4611686018427387904)) (
 gdO (decide (0 <= m'.Image)) (
 gdO (decide ((nz.length + 1) * 8 <= 140737488355328)) (
 gdO (decide (nz.length + 1 <= 4611686018427387904)) (
 some ((dT c' m' (c''.length : Int), c'' ++ [m'], ni ++ [(c''.length : Int)], nz ++ [lE .u64 (1 : Int) m'.Image]))
 )
 )
 )
 )
 )
 )
 )
 )

def bD (n : Nat) (c : List ai) (c' : List (aa × Int)) (c'' : List aa) (ni : List Int) (nz : List Int) (m' : aa) : Option (List Int × Int) :=
 bdO (aP (α := List Int × Int) (β := List Int × Int) n (fun again24 (c_17, k_18) => (
 gdO (inR k_18 c_17.length) (
 cdO (((gt c_17 k_18) : Int) != k_18) (
 gdO (inR (gt c_17 k_18) c_17.length) (
 again24 (c_17.set k_18.toNat (gt c_17 (gt c_17 k_18)), (gt (c_17.set k_18.toNat (gt c_17 (gt c_17 k_18))) k_18))
 )
 ) (
 some ((c_17, k_18))
 )
 )
 )) (ni, (getM 0 c' m'))) fun o28 => (
 match o28 with
 | (c_22, k_23) => (
 some ((c_22, k_23))
 ))

def eV (n : Nat) (ties : List ai) : Option (List ai × List (aa × Int) × List aa × List Int × List Int) :=
 bdO (bj n ties) fun v58 => (
 bdO (aR n v58) fun v60 => (
 gdO (decide (v60.length = v58.length)) (
 bdO (aW n v60) fun v63 => (
 bdO (aP (α := List (aa × Int) × List aa × List Int × List Int × Int) (β := List (aa × Int) × List aa × List Int × List Int) n (fun again90 (c_65, c_66, c_67, c_68, x_69) => (
 cdO (decide (x_69 < (v63.length : Int))) (
 gdO (inR x_69 v63.length) (
 bdO (ck n v63 c_65 c_66 c_67 c_68 (gt v63 x_69).A) fun v94 => (
 bdO (ck n v63 v94.1 v94.2.1 v94.2.2.1 v94.2.2.2 (gt v63 x_69).B) fun v96 => (
 bdO (bD n v63 v96.1 v96.2.1 v96.2.2.1 v96.2.2.2 (gt v63 x_69).A) fun v98 => (
 bdO (bD n v63 v96.1 v96.2.1 v98.1 v96.2.2.2 (gt v63 x_69).B) fun v100 => (
 cdO ((v98.2 : Int) != v100.2) (
 gdO (inR v98.2 v96.2.2.2.length) (
 gdO (inR v100.2 v96.2.2.2.length) (
 cdO (((b7 .and .u64 (gt v96.2.2.2 v98.2) (gt v96.2.2.2 v100.2)) : Int) == 0) (
 gdO (inR v100.2 v100.1.length) (
 again90 (v96.1, v96.2.1, v100.1.set v100.2.toNat v98.2, v96.2.2.2.set v98.2.toNat (b7 .or .u64 (gt v96.2.2.2 v98.2) (gt v96.2.2.2 v100.2)), Ew (x_69 + 1))
 )
 ) (
 again90 (v96.1, v96.2.1, v100.1, v96.2.2.2, Ew (x_69 + 1))
 )
 )
 )
 ) (
 again90 (v96.1, v96.2.1, v100.1, v96.2.2.2, Ew (x_69 + 1))
 )
 )
 )
 )
 )
 )
 ) (
 some ((c_65, c_66, c_67, c_68))
 )
 )) (([] : List (aa × Int)), [], [], [], 0)) fun o107 => (
 match o107 with
 | (c_86, c_87, c_88, c_89) => (
 some ((v63, c_86, c_87, c_88, c_89))
 ))
 )
 )
 )
 )

def bh (n : Nat) (s : List aa) : Option (List aa) :=
 gdO (decide ((0 + s.length) * 16 <= 140737488355328)) (
 gdO (decide (0 + s.length <= 4611686018427387904)) (
 some (s)
 )
 )

def bb (n : Nat) (s : List aa) : Option (List aa) :=
 gdO (decide ((0 + s.length) * 16 <= 140737488355328)) (
 gdO (decide (0 + s.length <= 4611686018427387904)) (
 some (s)
 )
 )

def aN (n : Nat) (x' : List aa) : Option (List aa) :=
 gdO (decide (x'.length < 4611686018427387904)) (
 pP (fun x y => de n x y) x'
 )

def cx (n : Nat) (c : List ai) (c' : List (aa × Int)) (c'' : List aa) (ni : List Int) (nz : List Int) (m' : aa) : Option (List Int × Int) :=
 bdO (aP (α := List Int × Int) (β := List Int × Int) n (fun again24 (c_17, k_18) => (
 gdO (inR k_18 c_17.length) (
 cdO (((gt c_17 k_18) : Int) != k_18) (
 gdO (inR (gt c_17 k_18) c_17.length) (
 again24 (c_17.set k_18.toNat (gt c_17 (gt c_17 k_18)), (gt (c_17.set k_18.toNat (gt c_17 (gt c_17 k_18))) k_18))
 )
 ) (
 some ((c_17, k_18))
 )
 )
 )) (ni, (getM 0 c' m'))) fun o28 => (
 match o28 with
 | (c_22, k_23) => (
 some ((c_22, k_23))
 ))

def jg (n : Nat) (tracks : List (List aa)) (least : Int) : Option (List (List aa)) :=
 bdO (aP (α := List (List aa) × Int) (β := List (List aa)) n (fun again12 (o_1, x_2) => (
 cdO (decide (x_2 < (tracks.length : Int))) (
 gdO (inR x_2 tracks.length) (
 cdO (decide (((gt tracks x_2).length : Int) >= least)) (
 bdO (bh n (gt tracks x_2)) fun v17 => (
 gdO (decide ((o_1.length + 1) * 24 <= 140737488355328)) (
 gdO (decide (o_1.length + 1 <= 4611686018427387904)) (
 again12 (o_1 ++ [v17], Ew (x_2 + 1))
 )
 )
 )
 ) (
 again12 (o_1, Ew (x_2 + 1))
 )
 )
 ) (
 some (o_1)
 )
 )) ([], 0)) fun o_11 => (
 some (o_11)
 )

def cu (n : Nat) (c : List ai) (c' : List (aa × Int)) (c'' : List aa) (ni : List Int) (nz : List Int) : Option (List Int × List (List aa)) :=
 bdO (bb n c'') fun v46 => (
 bdO (aN n v46) fun v48 => (
 gdO (decide (v48.length = v46.length)) (
 bdO (aP (α := List Int × List (Int × Int) × List (List aa) × Int) (β := List Int × List (List aa)) n (fun again70 (c_51, a_52, a_53, x_54) => (
 cdO (decide (x_54 < (v46.length : Int))) (
 gdO (inR x_54 v48.length) (
 bdO (cx n c c' c'' c_51 nz (gt v48 x_54)) fun v73 => (
 cdO (!(cW a_52 v73.2)) (
 gdO (decide ((a_53.length + 1) * 24 <= 140737488355328)) (
 gdO (decide (a_53.length + 1 <= 4611686018427387904)) (
 gdO (inR (a_53.length : Int) (a_53 ++ [([] : List aa)]).length) (
 gdO (decide (((gt (a_53 ++ [([] : List aa)]) (a_53.length : Int)).length + 1) * 16 <= 140737488355328)) (
 gdO (decide ((gt (a_53 ++ [([] : List aa)]) (a_53.length : Int)).length + 1 <= 4611686018427387904)) (
 again70 (v73.1, dT a_52 v73.2 (a_53.length : Int), (a_53 ++ [([] : List aa)]).set (a_53.length : Int).toNat ((gt (a_53 ++ [([] : List aa)]) (a_53.length : Int)) ++ [(gt v48 x_54)]), Ew (x_54 + 1))
 )
 )
 )
 )
 )
 ) (
 gdO (inR (getM 0 a_52 v73.2) a_53.length) (
 gdO (decide (((gt a_53 (getM 0 a_52 v73.2)).length + 1) * 16 <= 140737488355328)) (
 gdO (decide ((gt a_53 (getM 0 a_52 v73.2)).length + 1 <= 4611686018427387904)) (
 again70 (v73.1, a_52, a_53.set (getM 0 a_52 v73.2).toNat ((gt a_53 (getM 0 a_52 v73.2)) ++ [(gt v48 x_54)]), Ew (x_54 + 1))
 )
 )
 )
 )
 )
 )
 ) (
 some ((c_51, a_53))
 )
 )) (ni, ([] : List (Int × Int)), [], 0)) fun o84 => (
 match o84 with
 | (c_68, a_69) => (
 bdO (jg n a_69 2) fun v87 => (
 some ((c_68, v87))
 )
 ))
 )
 )
 )

def gr (n : Nat) (ties : List ai) : Option (List (List aa) × Int) :=
 bdO (ir n ties) fun v1 => (
 cdO ((v1 : Int) != 0) (
 some (([], v1))
 ) (
 bdO (eV n ties) fun v4 => (
 bdO (cu n v4.1 v4.2.1 v4.2.2.1 v4.2.2.2.1 v4.2.2.2.2) fun v6 => (
 some ((v6.2, 0))
 )
 )
 )
 )

def aZ (n : Nat) (s1 : List aa) (s2 : List aa) : Option (Bool) :=
 cdO (((s1.length : Int) : Int) != (s2.length : Int)) (
 some (false)
 ) (
 bdO (aP (α := Int) (β := Sum (Unit) (Bool)) n (fun again7 x_2 => (
 cdO (decide (x_2 < (s1.length : Int))) (
 gdO (inR x_2 s1.length) (
 gdO (inR x_2 s2.length) (
 cdO (!((((gt s1 x_2).Image : Int) == (gt s2 x_2).Image) && ((((gt s1 x_2).Feature : Int) == (gt s2 x_2).Feature) && true))) (
 some (Sum.inr (false))
 ) (
 again7 (Ew (x_2 + 1))
 )
 )
 )
 ) (
 some (Sum.inl ())
 )
 )) 0) fun o12 => (
 match o12 with
 | .inl _ => (
 some (true)
 )
 | .inr (r0) => (
 some r0
 ))
 )

def iN (n : Nat) (p : Int) (p' : Int) (p'' : Int) (BD : Int) (AW : List Int) : Option (Bool) :=
 cdO (decide (p < 0)) (
 some (true)
 ) (
 some (decide (p > BD))
 )

def bQ (n : Nat) (s : List Int) (c : Int) (c' : Int) (c'' : Int) (ni : List Int) : Option (Int) :=
 bdO (aP (α := Int) (β := Sum (Unit) (Int)) n (fun again7 x_1 => (
 cdO (decide (x_1 < (s.length : Int))) (
 gdO (inR x_1 s.length) (
 bdO (iN n (gt s x_1) c c' c'' ni) fun v10 => (
 cdO v10 (
 some (Sum.inr (x_1))
 ) (
 again7 (Ew (x_1 + 1))
 )
 )
 )
 ) (
 some (Sum.inl ())
 )
 )) 0) fun o13 => (
 match o13 with
 | .inl _ => (
 some ((-1))
 )
 | .inr (r0) => (
 some r0
 ))

def bJ (n : Nat) (s : List Int) (c : Int) (c' : Int) (c'' : Int) (ni : List Int) : Option (Bool) :=
 bdO (bQ n s c c' c'' ni) fun v1 => (
 some (decide (v1 >= 0))
 )

def gK (n : Nat) (r' : ak) : Option (Int) :=
 cdO (decide ((mn (mn r'.Width r'.Height) r'.Max) < 1)) (
 some (1)
 ) (
 cdO (decide ((mx r'.Width r'.Height) > 64)) (
 some (1)
 ) (
 cdO (decide (r'.Max > 65535)) (
 some (1)
 ) (
 cdO (((r'.Pixels.length : Int) : Int) != (Ew (r'.Width * r'.Height))) (
 some (1)
 ) (
 bdO (bJ n r'.Pixels r'.Width r'.Height r'.Max r'.Pixels) fun v5 => (
 cdO v5 (
 some (1)
 ) (
 some (0)
 )
 )
 )
 )
 )
 )

def jN (n : Nat) (r' : ak) (x' : Int) (y : Int) : Option (Int) :=
 gdO (inR (Ew ((Ew (y * r'.Width)) + x')) r'.Pixels.length) (
 some ((gt r'.Pixels (Ew ((Ew (y * r'.Width)) + x'))))
 )

def fQ (n : Nat) (r' : ak) : Option (List (List Int) × Int) :=
 bdO (gK n r') fun v1 => (
 cdO ((v1 : Int) != 0) (
 some (([], v1))
 ) (
 gdO (decide (0 <= Ew (r'.Height + 1))) (
 gdO (decide ((24 : Int) * (Ew (r'.Height + 1)) <= 281474976710656)) (
 gdO (decide (Ew (r'.Height + 1) <= 9223372036854775807)) (
 bdO (aP (α := List (List Int) × Int) (β := List (List Int)) n (fun again44 (o_7, x_8) => (
 cdO (decide (x_8 < ((List.replicate (Ew (r'.Height + 1)).toNat ([] : List Int)).length : Int))) (
 gdO (decide (0 <= Ew (r'.Width + 1))) (
 gdO (decide ((8 : Int) * (Ew (r'.Width + 1)) <= 281474976710656)) (
 gdO (decide (Ew (r'.Width + 1) <= 9223372036854775807)) (
 gdO (inR x_8 o_7.length) (
 bdO (aP (α := List (List Int) × Int) (β := List (List Int)) n (fun again64 (o_50, x_51) => (
 cdO (decide (x_51 <= r'.Width)) (
 cdO (decide (x_8 > 0)) (
 gdO (inR x_8 o_50.length) (
 gdO (inR (Ew (x_8 - 1)) o_50.length) (
 gdO (decide (x_8 ≠ (Ew (x_8 - 1)))) (
 gdO (inR x_51 (gt o_50 (Ew (x_8 - 1))).length) (
 gdO (inR (Ew (x_51 - 1)) (gt o_50 x_8).length) (
 gdO (inR (Ew (x_51 - 1)) (gt o_50 (Ew (x_8 - 1))).length) (
 bdO (jN n r' (Ew (x_51 - 1)) (Ew (x_8 - 1))) fun v73 => (
 gdO (inR x_51 (gt o_50 x_8).length) (
 again64 ((o_50.set x_8.toNat ((gt o_50 x_8).set x_51.toNat (Ew ((Ew ((Ew ((gt (gt o_50 (Ew (x_8 - 1))) x_51) + (gt (gt o_50 x_8) (Ew (x_51 - 1))))) - (gt (gt o_50 (Ew (x_8 - 1))) (Ew (x_51 - 1))))) + v73)))).set (Ew (x_8 - 1)).toNat (gt o_50 (Ew (x_8 - 1))), Ew (x_51 + 1))
 )
 )
 )
 )
 )
 )
 )
 )
 ) (
 some (o_50)
 )
 ) (
 some (o_50)
 )
 )) (o_7.set x_8.toNat (List.replicate (Ew (r'.Width + 1)).toNat ((0 : Int) : Int)), 1)) fun o_63 => (
 again44 (o_63, Ew (x_8 + 1))
 )
 )
 )
 )
 )
 ) (
 some (o_7)
 )
 )) (List.replicate (Ew (r'.Height + 1)).toNat ([] : List Int), 0)) fun o_43 => (
 some ((o_43, 0))
 )
 )
 )
 )
 )
 )

def ig (n : Nat) (r' : ak) : Option (aG × Int) :=
 bdO (fQ n r') fun v1 => (
 some ((aG.mk r' v1.1, v1.2))
 )

def dQ (n : Nat) (b : A4 Int) : Option (Bool) :=
 cdO (decide ((mn b.e2 b.e3) < 1)) (
 some (false)
 ) (
 cdO (decide ((mx b.e2 b.e3) > 8)) (
 some (false)
 ) (
 cdO (decide ((mn b.e0 b.e1) < (-16))) (
 some (false)
 ) (
 cdO (decide (b.e0 <= (Ew (17 - b.e2)))) (
 some (decide (b.e1 <= (Ew (17 - b.e3))))
 ) (
 some (false)
 )
 )
 )
 )

def fK (n : Nat) (t : aj) : Option (Bool) :=
 bdO (dQ n t.A) fun v1 => (
 cdO (!v1) (
 some (true)
 ) (
 bdO (dQ n t.B) fun v4 => (
 some (!v4)
 )
 )
 )

def aQ (n : Nat) (s : List aj) : Option (Int) :=
 bdO (aP (α := Int) (β := Sum (Unit) (Int)) n (fun again7 x_1 => (
 cdO (decide (x_1 < (s.length : Int))) (
 gdO (inR x_1 s.length) (
 bdO (fK n (gt s x_1)) fun v10 => (
 cdO v10 (
 some (Sum.inr (x_1))
 ) (
 again7 (Ew (x_1 + 1))
 )
 )
 )
 ) (
 some (Sum.inl ())
 )
 )) 0) fun o13 => (
 match o13 with
 | .inl _ => (
 some ((-1))
 )
 | .inr (r0) => (
 some r0
 ))

def aM (n : Nat) (s : List aj) : Option (Bool) :=
 bdO (aQ n s) fun v1 => (
 some (decide (v1 >= 0))
 )

def dL (n : Nat) (p : List aj) : Option (Int) :=
 cdO (decide ((p.length : Int) < 1)) (
 some (1)
 ) (
 cdO (decide ((p.length : Int) > 64)) (
 some (1)
 ) (
 bdO (aM n p) fun v3 => (
 cdO v3 (
 some (1)
 ) (
 some (0)
 )
 )
 )
 )

def fY (n : Nat) (r' : ak) (p : List aj) : Option (aG × Int) :=
 bdO (ig n r') fun v1 => (
 cdO ((v1.2 : Int) == 0) (
 bdO (dL n p) fun v4 => (
 some ((v1.1, v4))
 )
 ) (
 some ((v1.1, v1.2))
 )
 )

def jJ (n : Nat) (r' : List Int) (p : List (List Int)) : Option (Bool) :=
 gdO (inR 0 p.length) (
 some (((r'.length : Int) : Int) != ((gt p 0).length : Int))
 )

def bW (n : Nat) (s : List (List Int)) (c : List (List Int)) : Option (Int) :=
 bdO (aP (α := Int) (β := Sum (Unit) (Int)) n (fun again7 x_1 => (
 cdO (decide (x_1 < (s.length : Int))) (
 gdO (inR x_1 s.length) (
 bdO (jJ n (gt s x_1) c) fun v10 => (
 cdO v10 (
 some (Sum.inr (x_1))
 ) (
 again7 (Ew (x_1 + 1))
 )
 )
 )
 ) (
 some (Sum.inl ())
 )
 )) 0) fun o13 => (
 match o13 with
 | .inl _ => (
 some ((-1))
 )
 | .inr (r0) => (
 some r0
 ))

def bp (n : Nat) (s : List (List Int)) (c : List (List Int)) : Option (Bool) :=
 bdO (bW n s c) fun v1 => (
 some (decide (v1 >= 0))
 )

def jY (n : Nat) (table : List (List Int)) (x' : Int) (y : Int) (width : Int) (height : Int) : Option (Int × Int) :=
 cdO (((table.length : Int) : Int) == 0) (
 some ((0, 1))
 ) (
 gdO (inR 0 table.length) (
 cdO ((((gt table 0).length : Int) : Int) == 0) (
 some ((0, 1))
 ) (
 bdO (bp n table table) fun v4 => (
 cdO v4 (
 some ((0, 1))
 ) (
 cdO (decide ((mn (mn (mn x' y) width) height) < 0)) (
 some ((0, 2))
 ) (
 cdO (decide (x' > (Ew (((gt table 0).length : Int) - 1)))) (
 some ((0, 2))
 ) (
 cdO (decide (y > (Ew ((table.length : Int) - 1)))) (
 some ((0, 2))
 ) (
 cdO (decide (width > (Ew ((Ew (((gt table 0).length : Int) - 1)) - x')))) (
 some ((0, 2))
 ) (
 cdO (decide (height > (Ew ((Ew ((table.length : Int) - 1)) - y)))) (
 some ((0, 2))
 ) (
 gdO (inR (Ew (y + height)) table.length) (
 gdO (inR (Ew (x' + width)) (gt table (Ew (y + height))).length) (
 gdO (inR y table.length) (
 gdO (inR (Ew (x' + width)) (gt table y).length) (
 gdO (inR x' (gt table (Ew (y + height))).length) (
 gdO (inR x' (gt table y).length) (
 some ((Ew ((Ew ((Ew ((gt (gt table (Ew (y + height))) (Ew (x' + width))) - (gt (gt table y) (Ew (x' + width))))) - (gt (gt table (Ew (y + height))) x'))) + (gt (gt table y) x')), 0))
 )
 )
 )
 )
 )
 )
 )
 )
 )
 )
 )
 )
 )
 )
 )
 )

def bY (n : Nat) (m' : aG) (x' : Int) (y : Int) (width : Int) (height : Int) : Option (Int × Bool) :=
 bdO (jY n m'.f_table x' y width height) fun v1 => (
 some ((v1.1, (v1.2 : Int) == 0))
 )

def cr (n : Nat) (m' : aG) (p : List aj) (x' : Int) (y : Int) : Option (Int × Bool) :=
 bdO (aP (α := Int × Int) (β := Sum (Int) (Int × Bool)) n (fun again14 (w_1, x_2) => (
 cdO (decide (x_2 < (p.length : Int))) (
 gdO (inR x_2 p.length) (
 bdO (bY n m' (Ew (x' + (gt p x_2).A.e0)) (Ew (y + (gt p x_2).A.e1)) (gt p x_2).A.e2 (gt p x_2).A.e3) fun v17 => (
 bdO (bY n m' (Ew (x' + (gt p x_2).B.e0)) (Ew (y + (gt p x_2).B.e1)) (gt p x_2).B.e2 (gt p x_2).B.e3) fun v19 => (
 cdO (!v17.2) (
 some (Sum.inr ((0, false)))
 ) (
 cdO (!v19.2) (
 some (Sum.inr ((0, false)))
 ) (
 cdO (decide ((Ew ((Ew (v17.1 * (gt p x_2).B.e2)) * (gt p x_2).B.e3)) < (Ew ((Ew (v19.1 * (gt p x_2).A.e2)) * (gt p x_2).A.e3)))) (
 gdO (decide (0 <= x_2)) (
 again14 (b7 .or .u64 w_1 (lE .u64 (1 : Int) x_2), Ew (x_2 + 1))
 )
 ) (
 again14 (w_1, Ew (x_2 + 1))
 )
 )
 )
 )
 )
 )
 ) (
 some (Sum.inl w_1)
 )
 )) (0, 0)) fun o25 => (
 match o25 with
 | .inl w_13 => (
 some ((w_13, true))
 )
 | .inr (r0) => (
 some r0
 ))

def dt (n : Nat) (r' : ak) (p : List aj) : Option (List ah × List Int × Int) :=
 bdO (fY n r' p) fun v1 => (
 cdO ((v1.2 : Int) != 0) (
 some (([], [], v1.2))
 ) (
 bdO (aP (α := List ah × List Int × Int) (β := List ah × List Int) n (fun again35 (a_4, w_5, x_6) => (
 cdO (decide (x_6 < r'.Height)) (
 bdO (aP (α := List ah × List Int × Int) (β := List ah × List Int) n (fun again50 (a_37, w_38, x_39) => (
 cdO (decide (x_39 < r'.Width)) (
 bdO (cr n v1.1 p x_39 x_6) fun v52 => (
 cdO v52.2 (
 gdO (decide ((a_37.length + 1) * 16 <= 140737488355328)) (
 gdO (decide (a_37.length + 1 <= 4611686018427387904)) (
 gdO (decide ((w_38.length + 1) * 8 <= 140737488355328)) (
 gdO (decide (w_38.length + 1 <= 4611686018427387904)) (
 again50 (a_37 ++ [ah.mk x_39 x_6], w_38 ++ [v52.1], Ew (x_39 + 1))
 )
 )
 )
 )
 ) (
 again50 (a_37, w_38, Ew (x_39 + 1))
 )
 )
 ) (
 some ((a_37, w_38))
 )
 )) (a_4, w_5, 0)) fun o59 => (
 match o59 with
 | (a_48, w_49) => (
 again35 (a_48, w_49, Ew (x_6 + 1))
 ))
 ) (
 some ((a_4, w_5))
 )
 )) ([], [], 0)) fun o62 => (
 match o62 with
 | (a_33, w_34) => (
 some ((a_33, w_34, 0))
 ))
 )
 )

def dH (n : Nat) (x' : Int) : Option (Int) :=
 bdO (some (ae .u64 ((b7 .and .u64 (x'.fdiv (2 ^ 1)) 6148914691236517205) + (b7 .and .u64 x' 6148914691236517205)))) fun w1 => (
 bdO (some (ae .u64 ((b7 .and .u64 (w1.fdiv (2 ^ 2)) 3689348814741910323) + (b7 .and .u64 w1 3689348814741910323)))) fun w3 => (
 bdO (some (b7 .and .u64 (ae .u64 ((w3.fdiv (2 ^ 4)) + w3)) 1085102592571150095)) fun w5 => (
 bdO (some (ae .u64 ((ae .u64 (w5 + (w5.fdiv (2 ^ 8)))) + ((ae .u64 (w5 + (w5.fdiv (2 ^ 8)))).fdiv (2 ^ 16))))) fun w7 => (
 some (b7 .and .i64 (Ew (ae .u64 (w7 + (w7.fdiv (2 ^ 32))))) 127)
 )
 )
 )
 )

def cA (n : Nat) (a : Int) (b : Int) : Option (Int) :=
 bdO (dH n (b7 .xor .u64 a b)) fun v1 => (
 some (v1)
 )

def dy (n : Nat) (l : List Int) (w : Int) (but : Int) : Option (Int × Int) :=
 bdO (aP (α := Int × Int × Int) (β := Int × Int) n (fun again13 (i_1, d_2, x_3) => (
 cdO (decide (x_3 < (l.length : Int))) (
 gdO (inR x_3 l.length) (
 bdO (cA n (gt l x_3) w) fun v16 => (
 cdO ((x_3 : Int) != but) (
 cdO (decide (i_1 < 0)) (
 again13 (x_3, v16, Ew (x_3 + 1))
 ) (
 cdO (decide (v16 < d_2)) (
 again13 (x_3, v16, Ew (x_3 + 1))
 ) (
 again13 (i_1, d_2, Ew (x_3 + 1))
 )
 )
 ) (
 again13 (i_1, d_2, Ew (x_3 + 1))
 )
 )
 )
 ) (
 some ((i_1, d_2))
 )
 )) ((-1), 0, 0)) fun o21 => (
 match o21 with
 | (i_11, d_12) => (
 some ((i_11, d_12))
 ))

def cG (n : Nat) (l : List Int) (w : Int) (i : Int) (d : Int) (p : Int) (p' : Int) : Option (Bool) :=
 bdO (dy n l w i) fun v1 => (
 cdO (decide (v1.1 < 0)) (
 some (true)
 ) (
 some (decide ((Ew (d * p)) <= (Ew (p' * v1.2))))
 )
 )

def cY (n : Nat) (a : List Int) (b : List Int) (num : Int) (den : Int) : Option (List aI × Int) :=
 cdO (decide ((a.length : Int) > 64)) (
 some (([], 3))
 ) (
 cdO (decide ((b.length : Int) > 64)) (
 some (([], 3))
 ) (
 cdO (decide (num < 1)) (
 some (([], 2))
 ) (
 cdO (decide (num > 1000)) (
 some (([], 2))
 ) (
 cdO (decide (den < 1)) (
 some (([], 2))
 ) (
 cdO (decide (den > 1000)) (
 some (([], 2))
 ) (
 bdO (aP (α := List aI × Int) (β := List aI) n (fun again27 (o_7, x_8) => (
 cdO (decide (x_8 < (a.length : Int))) (
 gdO (inR x_8 a.length) (
 bdO (dy n b (gt a x_8) (-1)) fun v30 => (
 cdO (decide (v30.1 < 0)) (
 again27 (o_7, Ew (x_8 + 1))
 ) (
 gdO (inR v30.1 b.length) (
 bdO (dy n a (gt b v30.1) (-1)) fun v34 => (
 cdO ((v34.1 : Int) == x_8) (
 bdO (cG n b (gt a x_8) v30.1 v30.2 den num) fun v37 => (
 cdO v37 (
 bdO (cG n a (gt b v30.1) x_8 v30.2 den num) fun v40 => (
 cdO v40 (
 gdO (decide ((o_7.length + 1) * 24 <= 140737488355328)) (
 gdO (decide (o_7.length + 1 <= 4611686018427387904)) (
 again27 (o_7 ++ [aI.mk x_8 v30.1 v30.2], Ew (x_8 + 1))
 )
 )
 ) (
 again27 (o_7, Ew (x_8 + 1))
 )
 )
 ) (
 again27 (o_7, Ew (x_8 + 1))
 )
 )
 ) (
 again27 (o_7, Ew (x_8 + 1))
 )
 )
 )
 )
 )
 )
 ) (
 some (o_7)
 )
 )) ([], 0)) fun o_26 => (
 some ((o_26, 0))
 )
 )
 )
 )
 )
 )
 )

def eP (n : Nat) (s1 : List Int) (s2 : List Int) : Option (Bool) :=
 cdO (((s1.length : Int) : Int) != (s2.length : Int)) (
 some (false)
 ) (
 bdO (aP (α := Int) (β := Sum (Unit) (Bool)) n (fun again7 x_2 => (
 cdO (decide (x_2 < (s1.length : Int))) (
 gdO (inR x_2 s1.length) (
 gdO (inR x_2 s2.length) (
 cdO (((gt s1 x_2) : Int) != (gt s2 x_2)) (
 some (Sum.inr (false))
 ) (
 again7 (Ew (x_2 + 1))
 )
 )
 )
 ) (
 some (Sum.inl ())
 )
 )) 0) fun o12 => (
 match o12 with
 | .inl _ => (
 some (true)
 )
 | .inr (r0) => (
 some r0
 ))
 )

def gy (n : Nat) : Option (Bool) :=
 bdO (dt n (ak.mk 3 1 9 [(1 : Int), (5 : Int), (5 : Int)]) [aj.mk (A4.mk 0 0 1 1 : A4 Int) (A4.mk 1 0 1 1 : A4 Int)]) fun v1 => (
 bdO (cY n v1.2.1 [(0 : Int), (1 : Int)] 1 1) fun v3 => (
 cdO (((Ew (v1.2.2 + v3.2)) : Int) == 0) (
 cdO (((v1.1.length : Int) : Int) == 2) (
 bdO (eP n v1.2.1 [(1 : Int), (0 : Int)]) fun v7 => (
 cdO v7 (
 some (((v3.1.length : Int) : Int) == 2)
 ) (
 some (false)
 )
 )
 ) (
 some (false)
 )
 ) (
 some (false)
 )
 )
 )

def dX (n : Nat) : Option (Bool) :=
 bdO (bF n 0) fun v1 => (
 bdO (bF n 1) fun v3 => (
 bdO (bF n 1) fun v5 => (
 bdO (bF n 2) fun v7 => (
 bdO (gr n [ai.mk v1 v3 0, ai.mk v5 v7 0]) fun v9 => (
 cdO ((v9.2 : Int) == 0) (
 cdO (((v9.1.length : Int) : Int) == 1) (
 gdO (inR 0 v9.1.length) (
 bdO (bF n 0) fun v14 => (
 bdO (bF n 1) fun v16 => (
 bdO (bF n 2) fun v18 => (
 bdO (aZ n (gt v9.1 0) [v14, v16, v18]) fun v20 => (
 cdO v20 (
 bdO (gy n) fun v23 => (
 some (v23)
 )
 ) (
 some (false)
 )
 )
 )
 )
 )
 )
 ) (
 some (false)
 )
 ) (
 some (false)
 )
 )
 )
 )
 )
 )

def ee (n : Nat) (r' : ak) : Option (Int) :=
 cdO (decide (r'.Width < 1)) (
 some (1)
 ) (
 cdO (decide (r'.Width > 64)) (
 some (1)
 ) (
 cdO (decide (r'.Height < 1)) (
 some (1)
 ) (
 cdO (decide (r'.Height > 64)) (
 some (1)
 ) (
 cdO (decide (r'.Max < 1)) (
 some (1)
 ) (
 cdO (decide (r'.Max > 65535)) (
 some (1)
 ) (
 cdO (((r'.Pixels.length : Int) : Int) != (Ew (r'.Width * r'.Height))) (
 some (1)
 ) (
 bdO (aP (α := Int) (β := Sum (Unit) (Int)) n (fun again13 i_8 => (
 cdO (decide (i_8 < (r'.Pixels.length : Int))) (
 gdO (inR i_8 r'.Pixels.length) (
 cdO (decide ((gt r'.Pixels i_8) < 0)) (
 some (Sum.inr (1))
 ) (
 cdO (decide ((gt r'.Pixels i_8) > r'.Max)) (
 some (Sum.inr (1))
 ) (
 again13 (Ew (i_8 + 1))
 )
 )
 )
 ) (
 some (Sum.inl ())
 )
 )) 0) fun o18 => (
 match o18 with
 | .inl _ => (
 some (0)
 )
 | .inr (r0) => (
 some r0
 ))
 )
 )
 )
 )
 )
 )
 )

def cX (n : Nat) (s : List Int) : Option (List Int) :=
 some (s)

def dI (n : Nat) (x' : Int) : Option (Bool) :=
 some ((x' : Int) != x')

def aY (n : Nat) (x' : Int) (y : Int) : Option (Bool) :=
 bdO (dI n x') fun v1 => (
 cdO v1 (
 bdO (dI n y) fun v4 => (
 cdO (!v4) (
 some (true)
 ) (
 some (decide (x' < y))
 )
 )
 ) (
 some (decide (x' < y))
 )
 )

def aX (n : Nat) (c : List Int) : Option (List Int) :=
 gdO (decide (c.length < 1099511627776)) (
 some c
 )

def bk (n : Nat) (c : List Int) : Option (List Int) :=
 bdO (aX n c) fun v4 => (
 some (v4)
 )

def bM (n : Nat) (data : List Int) (a : Int) (b : Int) : Option (List Int) :=
 bdO (aP (α := List Int × Int) (β := List Int) n (fun again81 (d_55, i_56) => (
 cdO (decide (i_56 < b)) (
 bdO (aP (α := List Int × Int) (β := List Int) n (fun again94 (d_84, j_85) => (
 cdO (decide (j_85 > a)) (
 gdO (inR j_85 d_84.length) (
 gdO (inR (Ew (j_85 - 1)) d_84.length) (
 bdO (aY n (gt d_84 j_85) (gt d_84 (Ew (j_85 - 1)))) fun v98 => (
 cdO v98 (
 again94 ((d_84.set j_85.toNat (gt d_84 (Ew (j_85 - 1)))).set (Ew (j_85 - 1)).toNat (gt d_84 j_85), Ew (j_85 - 1))
 ) (
 some (d_84)
 )
 )
 )
 )
 ) (
 some (d_84)
 )
 )) (d_55, i_56)) fun d_93 => (
 again81 (d_93, Ew (i_56 + 1))
 )
 ) (
 some (d_55)
 )
 )) (data, Ew (a + 1))) fun d_80 => (
 some (d_80)
 )

def bP (n : Nat) (data : List Int) (lo : Int) (hi : Int) (first : Int) : Option (List Int) :=
 bdO (aP (α := List Int × Int) (β := Sum (List Int) (List Int)) n (fun again66 (d_45, r_46) => (
 cdO (decide ((Ew ((Ew (2 * r_46)) + 1)) >= hi)) (
 some (Sum.inl d_45)
 ) (
 bdO (α := Int) (
 cdO (decide ((Ew ((Ew ((Ew (2 * r_46)) + 1)) + 1)) < hi)) (
 gdO (inR (Ew (first + (Ew ((Ew (2 * r_46)) + 1)))) d_45.length) (
 gdO (inR (Ew ((Ew (first + (Ew ((Ew (2 * r_46)) + 1)))) + 1)) d_45.length) (
 bdO (aY n (gt d_45 (Ew (first + (Ew ((Ew (2 * r_46)) + 1))))) (gt d_45 (Ew ((Ew (first + (Ew ((Ew (2 * r_46)) + 1)))) + 1)))) fun v73 => (
 cdO v73 (
 some (Ew ((Ew ((Ew (2 * r_46)) + 1)) + 1))
 ) (
 some (Ew ((Ew (2 * r_46)) + 1))
 )
 )
 )
 )
 ) (
 some (Ew ((Ew (2 * r_46)) + 1))
 )
 ) fun c_69 => (
 gdO (inR (Ew (first + r_46)) d_45.length) (
 gdO (inR (Ew (first + c_69)) d_45.length) (
 bdO (aY n (gt d_45 (Ew (first + r_46))) (gt d_45 (Ew (first + c_69)))) fun v81 => (
 cdO (!v81) (
 some (Sum.inr (d_45))
 ) (
 again66 ((d_45.set (Ew (first + r_46)).toNat (gt d_45 (Ew (first + c_69)))).set (Ew (first + c_69)).toNat (gt d_45 (Ew (first + r_46))), c_69)
 )
 )
 )
 )
 )
 )
 )) (data, lo)) fun o85 => (
 match o85 with
 | .inl d_65 => (
 some (d_65)
 )
 | .inr (r0) => (
 some r0
 ))

def cm (n : Nat) (data : List Int) (a : Int) (b : Int) : Option (List Int) :=
 bdO (aP (α := List Int × Int) (β := List Int) n (fun again82 (d_74, i_75) => (
 cdO (decide (i_75 >= 0)) (
 bdO (bP n d_74 i_75 (Ew (b - a)) a) fun v85 => (
 gdO (decide (v85.length = d_74.length)) (
 again82 (v85, Ew (i_75 - 1))
 )
 )
 ) (
 some (d_74)
 )
 )) (data, Ew ((Ew ((Ew (b - a)) - 1)).tdiv 2))) fun d_81 => (
 bdO (aP (α := List Int × Int) (β := List Int) n (fun again101 (d_91, i_92) => (
 cdO (decide (i_92 >= 0)) (
 gdO (inR (Ew (a + i_92)) d_91.length) (
 gdO (inR a d_91.length) (
 bdO (bP n ((d_91.set a.toNat (gt d_91 (Ew (a + i_92)))).set (Ew (a + i_92)).toNat (gt d_91 a)) 0 i_92 a) fun v106 => (
 gdO (decide (v106.length = d_91.length)) (
 again101 (v106, Ew (i_92 - 1))
 )
 )
 )
 )
 ) (
 some (d_91)
 )
 )) (d_81, Ew ((Ew (b - a)) - 1))) fun d_100 => (
 some (d_100)
 )
 )

def cp (n : Nat) (length : Int) : Option (Int) :=
 bdO (dO n (ae .u64 length)) fun v1 => (
 gdO (decide (0 <= v1)) (
 some (lE .u64 (1 : Int) v1)
 )
 )

def ev (n : Nat) (r' : Int) : Option (Int × Int) :=
 some ((b7 .xor .u64 (b7 .xor .u64 (b7 .xor .u64 r' (ae .u64 (r' * 2 ^ 13))) ((b7 .xor .u64 r' (ae .u64 (r' * 2 ^ 13))).fdiv (2 ^ 7))) (ae .u64 ((b7 .xor .u64 (b7 .xor .u64 r' (ae .u64 (r' * 2 ^ 13))) ((b7 .xor .u64 r' (ae .u64 (r' * 2 ^ 13))).fdiv (2 ^ 7))) * 2 ^ 17)), b7 .xor .u64 (b7 .xor .u64 (b7 .xor .u64 r' (ae .u64 (r' * 2 ^ 13))) ((b7 .xor .u64 r' (ae .u64 (r' * 2 ^ 13))).fdiv (2 ^ 7))) (ae .u64 ((b7 .xor .u64 (b7 .xor .u64 r' (ae .u64 (r' * 2 ^ 13))) ((b7 .xor .u64 r' (ae .u64 (r' * 2 ^ 13))).fdiv (2 ^ 7))) * 2 ^ 17))))

def bN (n : Nat) (data : List Int) (a : Int) (b : Int) : Option (List Int) :=
 cdO (decide ((Ew (b - a)) >= 8)) (
 bdO (cp n (Ew (b - a))) fun v36 => (
 bdO (aP (α := List Int × Int × Int) (β := List Int) n (fun again53 (d_38, r_39, i_40) => (
 cdO (decide (i_40 <= (Ew ((Ew (a + (Ew ((Ew ((Ew (b - a)).tdiv 4)) * 2)))) + 1)))) (
 bdO (ev n r_39) fun v56 => (
 bdO (α := Int) (
 cdO (decide ((Ew (b7 .and .u64 v56.2 (ae .u64 (v36 - 1)))) >= (Ew (b - a)))) (
 some (Ew ((Ew (b7 .and .u64 v56.2 (ae .u64 (v36 - 1)))) - (Ew (b - a))))
 ) (
 some (Ew (b7 .and .u64 v56.2 (ae .u64 (v36 - 1))))
 )
 ) fun o_58 => (
 gdO (inR (Ew (a + o_58)) d_38.length) (
 gdO (inR i_40 d_38.length) (
 again53 ((d_38.set i_40.toNat (gt d_38 (Ew (a + o_58)))).set (Ew (a + o_58)).toNat (gt d_38 i_40), v56.1, Ew (i_40 + 1))
 )
 )
 )
 )
 ) (
 some (d_38)
 )
 )) (data, ae .u64 (Ew (b - a)), Ew ((Ew (a + (Ew ((Ew ((Ew (b - a)).tdiv 4)) * 2)))) - 1))) fun d_52 => (
 some (d_52)
 )
 )
 ) (
 some (data)
 )

def bH (n : Nat) (data : List Int) (a : Int) (b : Int) (swaps : Int) : Option (Int × Int × Int) :=
 gdO (inR b data.length) (
 gdO (inR a data.length) (
 bdO (aY n (gt data b) (gt data a)) fun v11 => (
 cdO v11 (
 some ((Ew (swaps + 1), b, a))
 ) (
 some ((swaps, a, b))
 )
 )
 )
 )

def bX (n : Nat) (data : List Int) (a : Int) (b : Int) (c : Int) (swaps : Int) : Option (Int × Int) :=
 bdO (bH n data a b swaps) fun v9 => (
 bdO (bH n data v9.2.2 c v9.1) fun v11 => (
 bdO (bH n data v9.2.1 v11.2.1 v11.1) fun v13 => (
 some ((v13.1, v13.2.2))
 )
 )
 )

def bg (n : Nat) (data : List Int) (a : Int) (swaps : Int) : Option (Int × Int) :=
 bdO (bX n data (Ew (a - 1)) a (Ew (a + 1)) swaps) fun v5 => (
 some ((v5.1, v5.2))
 )

def b9 (n : Nat) (data : List Int) (a : Int) (b : Int) : Option (Int × Int) :=
 bdO (α := Int × Int) (
 cdO (decide ((Ew (b - a)) >= 8)) (
 bdO (α := Int × Int × Int × Int) (
 cdO (decide ((Ew (b - a)) >= 50)) (
 bdO (bg n data (Ew (a + (Ew ((Ew ((Ew (b - a)).tdiv 4)) * 1)))) 0) fun v9 => (
 bdO (bg n data (Ew (a + (Ew ((Ew ((Ew (b - a)).tdiv 4)) * 2)))) v9.1) fun v11 => (
 bdO (bg n data (Ew (a + (Ew ((Ew ((Ew (b - a)).tdiv 4)) * 3)))) v11.1) fun v13 => (
 some ((v13.1, v9.2, v11.2, v13.2))
 )
 )
 )
 ) (
 some ((0, Ew (a + (Ew ((Ew ((Ew (b - a)).tdiv 4)) * 1))), Ew (a + (Ew ((Ew ((Ew (b - a)).tdiv 4)) * 2))), Ew (a + (Ew ((Ew ((Ew (b - a)).tdiv 4)) * 3)))))
 )
 ) fun o15 => (
 match o15 with
 | (s_4, i_5, j_6, k_7) => (
 bdO (bX n data i_5 j_6 k_7 s_4) fun v18 => (
 some ((v18.1, v18.2))
 )
 ))
 ) (
 some ((0, Ew (a + (Ew ((Ew ((Ew (b - a)).tdiv 4)) * 2)))))
 )
 ) fun o20 => (
 match o20 with
 | (s_1, j_2) => (
 cdO ((s_1 : Int) == 0) (
 some ((j_2, 1))
 ) (
 cdO ((s_1 : Int) == 12) (
 some ((j_2, 2))
 ) (
 some ((j_2, 0))
 )
 )
 ))

def bR (n : Nat) (data : List Int) (a : Int) (b : Int) : Option (List Int) :=
 bdO (aP (α := List Int × Int × Int) (β := List Int) n (fun again26 (d_18, i_19, j_20) => (
 cdO (decide (i_19 < j_20)) (
 gdO (inR j_20 d_18.length) (
 gdO (inR i_19 d_18.length) (
 again26 ((d_18.set i_19.toNat (gt d_18 j_20)).set j_20.toNat (gt d_18 i_19), Ew (i_19 + 1), Ew (j_20 - 1))
 )
 )
 ) (
 some (d_18)
 )
 )) (data, a, Ew (b - 1))) fun d_25 => (
 some (d_25)
 )

def bq (n : Nat) (data : List Int) (a : Int) (b : Int) : Option (List Int × Bool) :=
 bdO (aP (α := List Int × Int × Int) (β := Sum (List Int) (List Int × Bool)) n (fun again303 (d_203, i_204, j_205) => (
 cdO (decide (j_205 < 5)) (
 bdO (aP (α := Int) (β := Int) n (fun again332 i_324 => (
 cdO (decide (i_324 < b)) (
 gdO (inR i_324 d_203.length) (
 gdO (inR (Ew (i_324 - 1)) d_203.length) (
 bdO (aY n (gt d_203 i_324) (gt d_203 (Ew (i_324 - 1)))) fun v336 => (
 cdO (!v336) (
 again332 (Ew (i_324 + 1))
 ) (
 some (i_324)
 )
 )
 )
 )
 ) (
 some (i_324)
 )
 )) i_204) fun i_331 => (
 cdO ((i_331 : Int) == b) (
 some (Sum.inr ((d_203, true)))
 ) (
 cdO (decide ((Ew (b - a)) < 50)) (
 some (Sum.inr ((d_203, false)))
 ) (
 gdO (inR (Ew (i_331 - 1)) d_203.length) (
 gdO (inR i_331 d_203.length) (
 bdO (α := List Int) (
 cdO (decide ((Ew (i_331 - a)) >= 2)) (
 bdO (aP (α := List Int × Int) (β := List Int) n (fun again361 (d_350, j_351) => (
 cdO (decide (j_351 >= 1)) (
 gdO (inR j_351 d_350.length) (
 gdO (inR (Ew (j_351 - 1)) d_350.length) (
 bdO (aY n (gt d_350 j_351) (gt d_350 (Ew (j_351 - 1)))) fun v366 => (
 cdO (!v366) (
 some (d_350)
 ) (
 again361 ((d_350.set j_351.toNat (gt d_350 (Ew (j_351 - 1)))).set (Ew (j_351 - 1)).toNat (gt d_350 j_351), Ew (j_351 - 1))
 )
 )
 )
 )
 ) (
 some (d_350)
 )
 )) ((d_203.set i_331.toNat (gt d_203 (Ew (i_331 - 1)))).set (Ew (i_331 - 1)).toNat (gt d_203 i_331), Ew (i_331 - 1))) fun d_360 => (
 some (d_360)
 )
 ) (
 some ((d_203.set i_331.toNat (gt d_203 (Ew (i_331 - 1)))).set (Ew (i_331 - 1)).toNat (gt d_203 i_331))
 )
 ) fun d_348 => (
 cdO (decide ((Ew (b - i_331)) >= 2)) (
 bdO (aP (α := List Int × Int) (β := List Int) n (fun again388 (d_377, j_378) => (
 cdO (decide (j_378 < b)) (
 gdO (inR j_378 d_377.length) (
 gdO (inR (Ew (j_378 - 1)) d_377.length) (
 bdO (aY n (gt d_377 j_378) (gt d_377 (Ew (j_378 - 1)))) fun v393 => (
 cdO (!v393) (
 some (d_377)
 ) (
 again388 ((d_377.set j_378.toNat (gt d_377 (Ew (j_378 - 1)))).set (Ew (j_378 - 1)).toNat (gt d_377 j_378), Ew (j_378 + 1))
 )
 )
 )
 )
 ) (
 some (d_377)
 )
 )) (d_348, Ew (i_331 + 1))) fun d_387 => (
 again303 (d_387, i_331, Ew (j_205 + 1))
 )
 ) (
 again303 (d_348, i_331, Ew (j_205 + 1))
 )
 )
 )
 )
 )
 )
 )
 ) (
 some (Sum.inl d_203)
 )
 )) (data, Ew (a + 1), 0)) fun o400 => (
 match o400 with
 | .inl d_302 => (
 some ((d_302, false))
 )
 | .inr (r0) => (
 some r0
 ))

def bK (n : Nat) (data : List Int) (a : Int) (b : Int) (pivot : Int) : Option (List Int × Int) :=
 gdO (inR pivot data.length) (
 gdO (inR a data.length) (
 bdO (aP (α := List Int × Int × Int) (β := List Int × Int) n (fun again249 (d_168, i_169, j_170) => (
 bdO (aP (α := Int) (β := Int) n (fun again276 i_268 => (
 cdO (decide (i_268 <= j_170)) (
 gdO (inR a d_168.length) (
 gdO (inR i_268 d_168.length) (
 bdO (aY n (gt d_168 a) (gt d_168 i_268)) fun v280 => (
 cdO (!v280) (
 again276 (Ew (i_268 + 1))
 ) (
 some (i_268)
 )
 )
 )
 )
 ) (
 some (i_268)
 )
 )) i_169) fun i_275 => (
 bdO (aP (α := Int) (β := Int) n (fun again312 j_304 => (
 cdO (decide (i_275 <= j_304)) (
 gdO (inR a d_168.length) (
 gdO (inR j_304 d_168.length) (
 bdO (aY n (gt d_168 a) (gt d_168 j_304)) fun v316 => (
 cdO v316 (
 again312 (Ew (j_304 - 1))
 ) (
 some (j_304)
 )
 )
 )
 )
 ) (
 some (j_304)
 )
 )) j_170) fun j_311 => (
 cdO (decide (i_275 > j_311)) (
 some ((d_168, i_275))
 ) (
 gdO (inR j_311 d_168.length) (
 gdO (inR i_275 d_168.length) (
 again249 ((d_168.set i_275.toNat (gt d_168 j_311)).set j_311.toNat (gt d_168 i_275), Ew (i_275 + 1), Ew (j_311 - 1))
 )
 )
 )
 )
 )
 )) ((data.set a.toNat (gt data pivot)).set pivot.toNat (gt data a), Ew (a + 1), Ew (b - 1))) fun o326 => (
 match o326 with
 | (d_247, i_248) => (
 some ((d_247, i_248))
 ))
 )
 )

def cg (n : Nat) (data : List Int) (a : Int) (b : Int) (pivot : Int) : Option (List Int × Int × Bool) :=
 gdO (inR pivot data.length) (
 gdO (inR a data.length) (
 bdO (aP (α := Int) (β := Int) n (fun again438 i_430 => (
 cdO (decide (i_430 <= (Ew (b - 1)))) (
 gdO (inR i_430 ((data.set a.toNat (gt data pivot)).set pivot.toNat (gt data a)).length) (
 gdO (inR a ((data.set a.toNat (gt data pivot)).set pivot.toNat (gt data a)).length) (
 bdO (aY n (gt ((data.set a.toNat (gt data pivot)).set pivot.toNat (gt data a)) i_430) (gt ((data.set a.toNat (gt data pivot)).set pivot.toNat (gt data a)) a)) fun v442 => (
 cdO v442 (
 again438 (Ew (i_430 + 1))
 ) (
 some (i_430)
 )
 )
 )
 )
 ) (
 some (i_430)
 )
 )) (Ew (a + 1))) fun i_437 => (
 bdO (aP (α := Int) (β := Int) n (fun again474 j_466 => (
 cdO (decide (i_437 <= j_466)) (
 gdO (inR j_466 ((data.set a.toNat (gt data pivot)).set pivot.toNat (gt data a)).length) (
 gdO (inR a ((data.set a.toNat (gt data pivot)).set pivot.toNat (gt data a)).length) (
 bdO (aY n (gt ((data.set a.toNat (gt data pivot)).set pivot.toNat (gt data a)) j_466) (gt ((data.set a.toNat (gt data pivot)).set pivot.toNat (gt data a)) a)) fun v478 => (
 cdO (!v478) (
 again474 (Ew (j_466 - 1))
 ) (
 some (j_466)
 )
 )
 )
 )
 ) (
 some (j_466)
 )
 )) (Ew (b - 1))) fun j_473 => (
 cdO (decide (i_437 > j_473)) (
 gdO (inR a ((data.set a.toNat (gt data pivot)).set pivot.toNat (gt data a)).length) (
 gdO (inR j_473 ((data.set a.toNat (gt data pivot)).set pivot.toNat (gt data a)).length) (
 some (((((data.set a.toNat (gt data pivot)).set pivot.toNat (gt data a)).set j_473.toNat (gt ((data.set a.toNat (gt data pivot)).set pivot.toNat (gt data a)) a)).set a.toNat (gt ((data.set a.toNat (gt data pivot)).set pivot.toNat (gt data a)) j_473), j_473, true))
 )
 )
 ) (
 gdO (inR j_473 ((data.set a.toNat (gt data pivot)).set pivot.toNat (gt data a)).length) (
 gdO (inR i_437 ((data.set a.toNat (gt data pivot)).set pivot.toNat (gt data a)).length) (
 bdO (aP (α := List Int × Int × Int) (β := List Int × Int) n (fun again734 (d_653, i_654, j_655) => (
 bdO (aP (α := Int) (β := Int) n (fun again761 i_753 => (
 cdO (decide (i_753 <= j_655)) (
 gdO (inR i_753 d_653.length) (
 gdO (inR a d_653.length) (
 bdO (aY n (gt d_653 i_753) (gt d_653 a)) fun v765 => (
 cdO v765 (
 again761 (Ew (i_753 + 1))
 ) (
 some (i_753)
 )
 )
 )
 )
 ) (
 some (i_753)
 )
 )) i_654) fun i_760 => (
 bdO (aP (α := Int) (β := Int) n (fun again797 j_789 => (
 cdO (decide (i_760 <= j_789)) (
 gdO (inR j_789 d_653.length) (
 gdO (inR a d_653.length) (
 bdO (aY n (gt d_653 j_789) (gt d_653 a)) fun v801 => (
 cdO (!v801) (
 again797 (Ew (j_789 - 1))
 ) (
 some (j_789)
 )
 )
 )
 )
 ) (
 some (j_789)
 )
 )) j_655) fun j_796 => (
 cdO (decide (i_760 > j_796)) (
 some ((d_653, j_796))
 ) (
 gdO (inR j_796 d_653.length) (
 gdO (inR i_760 d_653.length) (
 again734 ((d_653.set i_760.toNat (gt d_653 j_796)).set j_796.toNat (gt d_653 i_760), Ew (i_760 + 1), Ew (j_796 - 1))
 )
 )
 )
 )
 )
 )) ((((data.set a.toNat (gt data pivot)).set pivot.toNat (gt data a)).set i_437.toNat (gt ((data.set a.toNat (gt data pivot)).set pivot.toNat (gt data a)) j_473)).set j_473.toNat (gt ((data.set a.toNat (gt data pivot)).set pivot.toNat (gt data a)) i_437), Ew (i_437 + 1), Ew (j_473 - 1))) fun o811 => (
 match o811 with
 | (d_732, j_733) => (
 gdO (inR a d_732.length) (
 gdO (inR j_733 d_732.length) (
 some (((d_732.set j_733.toNat (gt d_732 a)).set a.toNat (gt d_732 j_733), j_733, false))
 )
 )
 ))
 )
 )
 )
 )
 )
 )
 )

def b8 (rc : (List Int) -> Int -> Int -> Int -> Option (List Int)) (n : Nat) (data : List Int) (a : Int) (b : Int) (limit : Int) : Option (List Int) :=
 bdO (aP (α := List Int × Int × Int × Int × Bool × Bool) (β := List Int) n (fun again234 (d_156, a_157, b_158, l_159, w_160, w_161) => (
 cdO (decide ((Ew (b_158 - a_157)) <= 12)) (
 bdO (bM n d_156 a_157 b_158) fun v240 => (
 gdO (decide (v240.length = d_156.length)) (
 some (v240)
 )
 )
 ) (
 cdO ((l_159 : Int) == 0) (
 bdO (cm n d_156 a_157 b_158) fun v248 => (
 gdO (decide (v248.length = d_156.length)) (
 some (v248)
 )
 )
 ) (
 bdO (α := List Int × Int) (
 cdO (!w_160) (
 bdO (bN n d_156 a_157 b_158) fun v254 => (
 gdO (decide (v254.length = d_156.length)) (
 some ((v254, Ew (l_159 - 1)))
 )
 )
 ) (
 some ((d_156, l_159))
 )
 ) fun o257 => (
 match o257 with
 | (d_251, l_252) => (
 bdO (b9 n d_251 a_157 b_158) fun v260 => (
 bdO (α := List Int × Int × Int) (
 cdO ((v260.2 : Int) == 2) (
 bdO (bR n d_251 a_157 b_158) fun v266 => (
 gdO (decide (v266.length = d_251.length)) (
 some ((v266, Ew ((Ew (b_158 - 1)) - (Ew (v260.1 - a_157))), 1))
 )
 )
 ) (
 some ((d_251, v260.1, v260.2))
 )
 ) fun o269 => (
 match o269 with
 | (d_262, p_263, h_264) => (
 bdO (α := Sum (List Int) (List Int)) (
 cdO w_160 (
 cdO w_161 (
 cdO ((h_264 : Int) == 1) (
 bdO (bq n d_262 a_157 b_158) fun v276 => (
 gdO (decide (v276.1.length = d_262.length)) (
 cdO v276.2 (
 some (Sum.inr (v276.1))
 ) (
 some (Sum.inl v276.1)
 )
 )
 )
 ) (
 some (Sum.inl d_262)
 )
 ) (
 some (Sum.inl d_262)
 )
 ) (
 some (Sum.inl d_262)
 )
 ) fun o280 => (
 match o280 with
 | .inl d_272 => (
 bdO (α := Sum (List Int × Int) (Unit)) (
 cdO (decide (a_157 > 0)) (
 gdO (inR (Ew (a_157 - 1)) d_272.length) (
 gdO (inR p_263 d_272.length) (
 bdO (aY n (gt d_272 (Ew (a_157 - 1))) (gt d_272 p_263)) fun v288 => (
 cdO (!v288) (
 bdO (bK n d_272 a_157 b_158 p_263) fun v291 => (
 gdO (decide (v291.1.length = d_272.length)) (
 some (Sum.inl (v291.1, v291.2))
 )
 )
 ) (
 some (Sum.inr (()))
 )
 )
 )
 )
 ) (
 some (Sum.inr (()))
 )
 ) fun o294 => (
 match o294 with
 | .inl (d_283, a_284) => (
 again234 (d_283, a_284, b_158, l_252, w_160, w_161)
 )
 | .inr (_) => (
 bdO (cg n d_272 a_157 b_158 p_263) fun v297 => (
 gdO (decide (v297.1.length = d_272.length)) (
 cdO (decide ((Ew (v297.2.1 - a_157)) < (Ew (b_158 - v297.2.1)))) (
 bdO (rc v297.1 a_157 v297.2.1 l_252) fun v301 => (
 gdO (decide (v301.length = d_272.length)) (
 again234 (v301, Ew (v297.2.1 + 1), b_158, l_252, decide ((Ew (v297.2.1 - a_157)) >= (Ew ((Ew (b_158 - a_157)).tdiv 8))), v297.2.2)
 )
 )
 ) (
 bdO (rc v297.1 (Ew (v297.2.1 + 1)) b_158 l_252) fun v304 => (
 gdO (decide (v304.length = d_272.length)) (
 again234 (v304, a_157, v297.2.1, l_252, decide ((Ew (b_158 - v297.2.1)) >= (Ew ((Ew (b_158 - a_157)).tdiv 8))), v297.2.2)
 )
 )
 )
 )
 )
 ))
 )
 | .inr (r0) => (
 some (r0)
 ))
 ))
 )
 ))
 )
 )
 )) (data, a, b, limit, true, true)) fun r0 => (
 some r0
 )
def ch (n : Nat) : Nat -> (List Int) -> Int -> Int -> Int -> Option (List Int)
 | 0 => fun _ _ _ _ => none
 | k + 1 => b8 (ch n k) n
def dK (n : Nat) (data : List Int) (a : Int) (b : Int) (limit : Int) : Option (List Int) := ch n n data a b limit

def cL (n : Nat) (x' : List Int) : Option (List Int) :=
 bdO (dO n (ae .u64 (x'.length : Int))) fun v7 => (
 bdO (dK n x' 0 (x'.length : Int) v7) fun v9 => (
 gdO (decide (v9.length = x'.length)) (
 some (v9)
 )
 )
 )

def bm (n : Nat) (c : List Int) : Option (List Int) :=
 bdO (bk n c) fun v7 => (
 bdO (cL n v7) fun v9 => (
 gdO (decide (v9.length = v7.length)) (
 some (v9)
 )
 )
 )

def ct (n : Nat) (s : List Int) : Option (List Int) :=
 cdO (decide ((s.length : Int) < 2)) (
 some (s)
 ) (
 bdO (aP (α := Int) (β := Sum (Unit) (List Int)) n (fun again100 k_69 => (
 cdO (decide (k_69 < (s.length : Int))) (
 gdO (inR k_69 s.length) (
 gdO (inR (Ew (k_69 - 1)) s.length) (
 cdO (((gt s k_69) : Int) == (gt s (Ew (k_69 - 1)))) (
 gdO (inS k_69 (s.length : Int) s.length) (
 bdO (aP (α := List Int × Int × Int) (β := List Int × Int) n (fun again118 (s_106, k_107, k2_108) => (
 cdO (decide (k2_108 < ((s.length - k_69.toNat : Nat) : Int))) (
 gdO (inR k2_108 (s.length - k_69.toNat)) (
 gdO (inR ((k_69.toNat + k2_108.toNat : Nat) : Int) s_106.length) (
 gdO (inR (Ew (k2_108 - 1)) (s.length - k_69.toNat)) (
 gdO (inR ((k_69.toNat + (Ew (k2_108 - 1)).toNat : Nat) : Int) s_106.length) (
 cdO (((gt s_106 ((k_69.toNat + k2_108.toNat : Nat) : Int)) : Int) != (gt s_106 ((k_69.toNat + (Ew (k2_108 - 1)).toNat : Nat) : Int))) (
 gdO (inR k_107 s_106.length) (
 again118 (s_106.set k_107.toNat (gt s_106 ((k_69.toNat + k2_108.toNat : Nat) : Int)), Ew (k_107 + 1), Ew (k2_108 + 1))
 )
 ) (
 again118 (s_106, k_107, Ew (k2_108 + 1))
 )
 )
 )
 )
 )
 ) (
 some ((s_106, k_107))
 )
 )) (s, k_69, 1)) fun o126 => (
 match o126 with
 | (s_116, k_117) => (
 gdO (inS k_117 (s_116.length : Int) s_116.length) (
 gdO (inS 0 k_117 s_116.length) (
 some (Sum.inr (((fZ s_116 k_117.toNat (List.replicate (s_116.length - k_117.toNat) ((0 : Int) : Int))).take k_117.toNat)))
 )
 )
 ))
 )
 ) (
 again100 (Ew (k_69 + 1))
 )
 )
 )
 ) (
 some (Sum.inl ())
 )
 )) 1) fun o131 => (
 match o131 with
 | .inl _ => (
 some (s)
 )
 | .inr (r0) => (
 some r0
 ))
 )

def dE (n : Nat) (l : List Int) : Option (Bool) :=
 bdO (cX n l) fun v1 => (
 bdO (bm n v1) fun v3 => (
 bdO (ct n v3) fun v5 => (
 some (((v5.length : Int) : Int) == (l.length : Int))
 )
 )
 )

def lO (n : Nat) (r' : ak) (x' : Int) (y : Int) : Option (Bool) :=
 cdO (decide (x' >= 0)) (
 cdO (decide (x' < r'.Width)) (
 cdO (decide (y >= 0)) (
 some (decide (y < r'.Height))
 ) (
 some (false)
 )
 ) (
 some (false)
 )
 ) (
 some (false)
 )

def gQ (n : Nat) (i : Int) (j : Int) (p : Int) (p' : Int) (p'' : Int) (BD : List Int) (AW : Int) (BF : Int) : Option (Int) :=
 bdO (jN n (ak.mk p p' p'' BD) (Ew (AW + i)) (Ew (BF + j))) fun v1 => (
 some (v1)
 )

def c9 (n : Nat) (width : Int) (height : Int) (most : Int) (c : Int) (c' : Int) (c'' : Int) (ni : List Int) (nz : Int) (BG : Int) : Option (ak) :=
 gdO (decide (0 <= Ew (width * height))) (
 gdO (decide ((8 : Int) * (Ew (width * height)) <= 281474976710656)) (
 gdO (decide (Ew (width * height) <= 9223372036854775807)) (
 bdO (aP (α := List Int × Int) (β := List Int) n (fun again25 (r_4, x_5) => (
 cdO (decide (x_5 < height)) (
 bdO (aP (α := List Int × Int) (β := List Int) n (fun again35 (r_27, x_28) => (
 cdO (decide (x_28 < width)) (
 bdO (gQ n x_28 x_5 c c' c'' ni nz BG) fun v37 => (
 gdO (decide ((r_27.length + 1) * 8 <= 140737488355328)) (
 gdO (decide (r_27.length + 1 <= 4611686018427387904)) (
 again35 (r_27 ++ [v37], Ew (x_28 + 1))
 )
 )
 )
 ) (
 some (r_27)
 )
 )) (r_4, 0)) fun r_34 => (
 again25 (r_34, Ew (x_5 + 1))
 )
 ) (
 some (r_4)
 )
 )) ((List.replicate (Ew (width * height)).toNat (0 : Int)).take 0, 0)) fun r_24 => (
 some (ak.mk width height most r_24)
 )
 )
 )
 )

def gk (n : Nat) (r' : ak) (x' : Int) (y : Int) (width : Int) (height : Int) : Option (ak × Int) :=
 bdO (gK n r') fun v1 => (
 cdO ((v1 : Int) != 0) (
 some ((ak.mk 0 0 0 [], v1))
 ) (
 bdO (lO n r' x' y) fun v4 => (
 cdO (!v4) (
 some ((ak.mk 0 0 0 [], 2))
 ) (
 cdO (decide (width < 1)) (
 some ((ak.mk 0 0 0 [], 2))
 ) (
 cdO (decide (height < 1)) (
 some ((ak.mk 0 0 0 [], 2))
 ) (
 cdO (decide (width > (Ew (r'.Width - x')))) (
 some ((ak.mk 0 0 0 [], 2))
 ) (
 cdO (decide (height > (Ew (r'.Height - y)))) (
 some ((ak.mk 0 0 0 [], 2))
 ) (
 bdO (c9 n width height r'.Max r'.Width r'.Height r'.Max r'.Pixels x' y) fun v11 => (
 some ((v11, 0))
 )
 )
 )
 )
 )
 )
 )
 )
 )

def fS (n : Nat) (ties : List ai) : Option (List ai × Int) :=
 bdO (ir n ties) fun v1 => (
 cdO ((v1 : Int) != 0) (
 some (([], v1))
 ) (
 bdO (eV n ties) fun v5 => (
 bdO (aP (α := List Int × List ai × Int) (β := List ai) n (fun again21 (c_7, o_8, x_9) => (
 cdO (decide (x_9 < (v5.1.length : Int))) (
 gdO (inR x_9 v5.1.length) (
 bdO (bD n v5.1 v5.2.1 v5.2.2.1 c_7 v5.2.2.2.2 (gt v5.1 x_9).A) fun v25 => (
 bdO (bD n v5.1 v5.2.1 v5.2.2.1 v25.1 v5.2.2.2.2 (gt v5.1 x_9).B) fun v27 => (
 cdO ((v25.2 : Int) != v27.2) (
 gdO (decide ((o_8.length + 1) * 40 <= 140737488355328)) (
 gdO (decide (o_8.length + 1 <= 4611686018427387904)) (
 again21 (v27.1, o_8 ++ [(gt v5.1 x_9)], Ew (x_9 + 1))
 )
 )
 ) (
 again21 (v27.1, o_8, Ew (x_9 + 1))
 )
 )
 )
 )
 ) (
 some (o_8)
 )
 )) (v5.2.2.2.1, [], 0)) fun o_20 => (
 some ((o_20, 0))
 )
 )
 )
 )

def dU (n : Nat) (t : List aa) (p : List aa) : Option (Bool) :=
 bdO (aZ n t p) fun v1 => (
 some (v1)
 )

def aU (n : Nat) (s : List (List aa)) (c : List aa) : Option (Int) :=
 bdO (aP (α := Int) (β := Sum (Unit) (Int)) n (fun again7 x_1 => (
 cdO (decide (x_1 < (s.length : Int))) (
 gdO (inR x_1 s.length) (
 bdO (dU n (gt s x_1) c) fun v10 => (
 cdO v10 (
 some (Sum.inr (x_1))
 ) (
 again7 (Ew (x_1 + 1))
 )
 )
 )
 ) (
 some (Sum.inl ())
 )
 )) 0) fun o13 => (
 match o13 with
 | .inl _ => (
 some ((-1))
 )
 | .inr (r0) => (
 some r0
 ))

def aL (n : Nat) (s : List (List aa)) (c : List aa) : Option (Bool) :=
 bdO (aU n s c) fun v1 => (
 some (decide (v1 >= 0))
 )

noncomputable def c6 (n : Nat) (r' : ak) (p : List aj) (windows : A3 (A4 Int)) : Option (Bool) :=
 bdO (dX n) fun v1 => (
 cdO (!v1) (
 some (false)
 ) (
 bdO (ee n r') fun v4 => (
 cdO ((v4 : Int) != 0) (
 some (true)
 ) (
 cdO (decide ((mx r'.Width r'.Height) > 9)) (
 some (true)
 ) (
 bdO (dL n p) fun v8 => (
 cdO ((v8 : Int) != 0) (
 some (true)
 ) (
 bdO (dt n r' p) fun v11 => (
 cdO ((v11.2.2 : Int) != 0) (
 some (false)
 ) (
 bdO (dE n v11.2.1) fun v14 => (
 cdO (!v14) (
 some (true)
 ) (
 gdO (!decide (r'.Width = 0)) (
 gdO (!decide (r'.Height = 0)) (
 gdO (!decide (Ew (r'.Width - ((Ew windows.e0.e0).tmod r'.Width)) = 0)) (
 gdO (!decide (Ew (r'.Height - ((Ew windows.e0.e1).tmod r'.Height)) = 0)) (
 bdO (gk n r' ((Ew windows.e0.e0).tmod r'.Width) ((Ew windows.e0.e1).tmod r'.Height) (Ew (1 + ((Ew windows.e0.e2).tmod (Ew (r'.Width - ((Ew windows.e0.e0).tmod r'.Width)))))) (Ew (1 + ((Ew windows.e0.e3).tmod (Ew (r'.Height - ((Ew windows.e0.e1).tmod r'.Height))))))) fun v21 => (
 bdO (dt n v21.1 p) fun v23 => (
 cdO ((v21.2 : Int) != 0) (
 some (false)
 ) (
 cdO ((v23.2.2 : Int) != 0) (
 some (false)
 ) (
 cdO (((v23.1.length : Int) : Int) != (v23.2.1.length : Int)) (
 some (false)
 ) (
 cdO (decide ((v23.2.1.length : Int) > 64)) (
 some (true)
 ) (
 bdO (aP (α := List ah × Int) (β := List ah) n (fun again36 (a_29, x_30) => (
 cdO (decide (x_30 < (v23.1.length : Int))) (
 gdO (inR x_30 v23.1.length) (
 gdO (decide ((a_29.length + 1) * 16 <= 140737488355328)) (
 gdO (decide (a_29.length + 1 <= 4611686018427387904)) (
 again36 (a_29 ++ [ah.mk (Ew ((gt v23.1 x_30).X + ((Ew windows.e0.e0).tmod r'.Width))) (Ew ((gt v23.1 x_30).Y + ((Ew windows.e0.e1).tmod r'.Height)))], Ew (x_30 + 1))
 )
 )
 )
 ) (
 some (a_29)
 )
 )) ([], 0)) fun a_35 => (
 gdO (!decide (Ew (r'.Width - ((Ew windows.e1.e0).tmod r'.Width)) = 0)) (
 gdO (!decide (Ew (r'.Height - ((Ew windows.e1.e1).tmod r'.Height)) = 0)) (
 bdO (gk n r' ((Ew windows.e1.e0).tmod r'.Width) ((Ew windows.e1.e1).tmod r'.Height) (Ew (1 + ((Ew windows.e1.e2).tmod (Ew (r'.Width - ((Ew windows.e1.e0).tmod r'.Width)))))) (Ew (1 + ((Ew windows.e1.e3).tmod (Ew (r'.Height - ((Ew windows.e1.e1).tmod r'.Height))))))) fun v46 => (
 bdO (dt n v46.1 p) fun v48 => (
 cdO ((v46.2 : Int) != 0) (
 some (false)
 ) (
 cdO ((v48.2.2 : Int) != 0) (
 some (false)
 ) (
 cdO (((v48.1.length : Int) : Int) != (v48.2.1.length : Int)) (
 some (false)
 ) (
 cdO (decide ((v48.2.1.length : Int) > 64)) (
 some (true)
 ) (
 bdO (aP (α := List ah × Int) (β := List ah) n (fun again61 (a_54, x_55) => (
 cdO (decide (x_55 < (v48.1.length : Int))) (
 gdO (inR x_55 v48.1.length) (
 gdO (decide ((a_54.length + 1) * 16 <= 140737488355328)) (
 gdO (decide (a_54.length + 1 <= 4611686018427387904)) (
 again61 (a_54 ++ [ah.mk (Ew ((gt v48.1 x_55).X + ((Ew windows.e1.e0).tmod r'.Width))) (Ew ((gt v48.1 x_55).Y + ((Ew windows.e1.e1).tmod r'.Height)))], Ew (x_55 + 1))
 )
 )
 )
 ) (
 some (a_54)
 )
 )) ([], 0)) fun a_60 => (
 gdO (!decide (Ew (r'.Width - ((Ew windows.e2.e0).tmod r'.Width)) = 0)) (
 gdO (!decide (Ew (r'.Height - ((Ew windows.e2.e1).tmod r'.Height)) = 0)) (
 bdO (gk n r' ((Ew windows.e2.e0).tmod r'.Width) ((Ew windows.e2.e1).tmod r'.Height) (Ew (1 + ((Ew windows.e2.e2).tmod (Ew (r'.Width - ((Ew windows.e2.e0).tmod r'.Width)))))) (Ew (1 + ((Ew windows.e2.e3).tmod (Ew (r'.Height - ((Ew windows.e2.e1).tmod r'.Height))))))) fun v71 => (
 bdO (dt n v71.1 p) fun v73 => (
 cdO ((v71.2 : Int) != 0) (
 some (false)
 ) (
 cdO ((v73.2.2 : Int) != 0) (
 some (false)
 ) (
 cdO (((v73.1.length : Int) : Int) != (v73.2.1.length : Int)) (
 some (false)
 ) (
 cdO (decide ((v73.2.1.length : Int) > 64)) (
 some (true)
 ) (
 bdO (aP (α := List ah × Int) (β := List ah) n (fun again86 (a_79, x_80) => (
 cdO (decide (x_80 < (v73.1.length : Int))) (
 gdO (inR x_80 v73.1.length) (
 gdO (decide ((a_79.length + 1) * 16 <= 140737488355328)) (
 gdO (decide (a_79.length + 1 <= 4611686018427387904)) (
 again86 (a_79 ++ [ah.mk (Ew ((gt v73.1 x_80).X + ((Ew windows.e2.e0).tmod r'.Width))) (Ew ((gt v73.1 x_80).Y + ((Ew windows.e2.e1).tmod r'.Height)))], Ew (x_80 + 1))
 )
 )
 )
 ) (
 some (a_79)
 )
 )) ([], 0)) fun a_85 => (
 bdO (cY n v23.2.1 v48.2.1 1 1) fun v94 => (
 cdO ((v94.2 : Int) != 0) (
 some (false)
 ) (
 bdO (aP (α := List ai × Int) (β := List ai) n (fun again105 (t_97, x_98) => (
 cdO (decide (x_98 < (v94.1.length : Int))) (
 gdO (inR x_98 v94.1.length) (
 cdO (((gt v94.1 x_98).Distance : Int) == 0) (
 gdO (decide ((t_97.length + 1) * 40 <= 140737488355328)) (
 gdO (decide (t_97.length + 1 <= 4611686018427387904)) (
 again105 (t_97 ++ [ai.mk (aa.mk 0 (gt v94.1 x_98).First) (aa.mk 1 (gt v94.1 x_98).Second) 0], Ew (x_98 + 1))
 )
 )
 ) (
 again105 (t_97, Ew (x_98 + 1))
 )
 )
 ) (
 some (t_97)
 )
 )) ([], 0)) fun t_104 => (
 bdO (cY n v23.2.1 v73.2.1 1 1) fun v114 => (
 cdO ((v114.2 : Int) != 0) (
 some (false)
 ) (
 bdO (aP (α := List ai × Int) (β := List ai) n (fun again125 (t_117, x_118) => (
 cdO (decide (x_118 < (v114.1.length : Int))) (
 gdO (inR x_118 v114.1.length) (
 cdO (((gt v114.1 x_118).Distance : Int) == 0) (
 gdO (decide ((t_117.length + 1) * 40 <= 140737488355328)) (
 gdO (decide (t_117.length + 1 <= 4611686018427387904)) (
 again125 (t_117 ++ [ai.mk (aa.mk 0 (gt v114.1 x_118).First) (aa.mk 2 (gt v114.1 x_118).Second) 0], Ew (x_118 + 1))
 )
 )
 ) (
 again125 (t_117, Ew (x_118 + 1))
 )
 )
 ) (
 some (t_117)
 )
 )) (t_104, 0)) fun t_124 => (
 bdO (cY n v48.2.1 v73.2.1 1 1) fun v134 => (
 cdO ((v134.2 : Int) != 0) (
 some (false)
 ) (
 bdO (aP (α := List ai × Int) (β := List ai) n (fun again145 (t_137, x_138) => (
 cdO (decide (x_138 < (v134.1.length : Int))) (
 gdO (inR x_138 v134.1.length) (
 cdO (((gt v134.1 x_138).Distance : Int) == 0) (
 gdO (decide ((t_137.length + 1) * 40 <= 140737488355328)) (
 gdO (decide (t_137.length + 1 <= 4611686018427387904)) (
 again145 (t_137 ++ [ai.mk (aa.mk 1 (gt v134.1 x_138).First) (aa.mk 2 (gt v134.1 x_138).Second) 0], Ew (x_138 + 1))
 )
 )
 ) (
 again145 (t_137, Ew (x_138 + 1))
 )
 )
 ) (
 some (t_137)
 )
 )) (t_124, 0)) fun t_144 => (
 bdO (gr n t_144) fun v154 => (
 bdO (fS n t_144) fun v156 => (
 cdO ((v154.2 : Int) != 0) (
 some (false)
 ) (
 cdO ((v156.2 : Int) != 0) (
 some (false)
 ) (
 cdO (((v156.1.length : Int) : Int) != 0) (
 some (false)
 ) (
 bdO (aP (α := List (ah × List aa) × Int) (β := List (ah × List aa)) n (fun again168 (s_161, x_162) => (
 cdO (decide (x_162 < (a_35.length : Int))) (
 gdO (inR x_162 a_35.length) (
 gdO (decide (((getM [] s_161 (gt a_35 x_162)).length + 1) * 16 <= 140737488355328)) (
 gdO (decide ((getM [] s_161 (gt a_35 x_162)).length + 1 <= 4611686018427387904)) (
 again168 (dT s_161 (gt a_35 x_162) ((getM [] s_161 (gt a_35 x_162)) ++ [aa.mk 0 x_162]), Ew (x_162 + 1))
 )
 )
 )
 ) (
 some (s_161)
 )
 )) (([] : List (ah × List aa)), 0)) fun s_167 => (
 bdO (aP (α := List (ah × List aa) × Int) (β := List (ah × List aa)) n (fun again183 (s_176, x_177) => (
 cdO (decide (x_177 < (a_60.length : Int))) (
 gdO (inR x_177 a_60.length) (
 gdO (decide (((getM [] s_176 (gt a_60 x_177)).length + 1) * 16 <= 140737488355328)) (
 gdO (decide ((getM [] s_176 (gt a_60 x_177)).length + 1 <= 4611686018427387904)) (
 again183 (dT s_176 (gt a_60 x_177) ((getM [] s_176 (gt a_60 x_177)) ++ [aa.mk 1 x_177]), Ew (x_177 + 1))
 )
 )
 )
 ) (
 some (s_176)
 )
 )) (s_167, 0)) fun s_182 => (
 bdO (aP (α := List (ah × List aa) × Int) (β := List (ah × List aa)) n (fun again198 (s_191, x_192) => (
 cdO (decide (x_192 < (a_85.length : Int))) (
 gdO (inR x_192 a_85.length) (
 gdO (decide (((getM [] s_191 (gt a_85 x_192)).length + 1) * 16 <= 140737488355328)) (
 gdO (decide ((getM [] s_191 (gt a_85 x_192)).length + 1 <= 4611686018427387904)) (
 again198 (dT s_191 (gt a_85 x_192) ((getM [] s_191 (gt a_85 x_192)) ++ [aa.mk 2 x_192]), Ew (x_192 + 1))
 )
 )
 )
 ) (
 some (s_191)
 )
 )) (s_182, 0)) fun s_197 => (
 xD (ε := ah × List aa) (σ := List (List aa)) s_197 (fun w_210 e206 => (
 cdO (decide ((e206.2.length : Int) > 1)) (
 gdO (decide ((w_210.length + 1) * 24 <= 140737488355328)) (
 gdO (decide (w_210.length + 1 <= 4611686018427387904)) (
 some (w_210 ++ [e206.2])
 )
 )
 ) (
 some (w_210)
 )
 )) [] fun w_210 => (
 cdO (((w_210.length : Int) : Int) != (v154.1.length : Int)) (
 some (false)
 ) (
 bdO (aP (α := Int) (β := Sum (Unit) (Bool)) n (fun again224 x_218 => (
 cdO (decide (x_218 < (w_210.length : Int))) (
 gdO (inR x_218 w_210.length) (
 bdO (aL n v154.1 (gt w_210 x_218)) fun v227 => (
 cdO (!v227) (
 some (Sum.inr (false))
 ) (
 again224 (Ew (x_218 + 1))
 )
 )
 )
 ) (
 some (Sum.inl ())
 )
 )) 0) fun o230 => (
 match o230 with
 | .inl _ => (
 some (true)
 )
 | .inr (r0) => (
 some r0
 ))
 )
 )
 )
 )
 )
 )
 )
 )
 )
 )
 )
 )
 )
 )
 )
 )
 )
 )
 )
 )
 )
 )
 )
 )
 )
 )
 )
 )
 )
 )
 )
 )
 )
 )
 )
 )
 )
 )
 )
 )
 )
 )
 )
 )
 )
 )
 )
 )
 )
 )
 )
 )
 )
 )
 )
 )
 )
 )
 )
abbrev iCu := iC .u32
abbrev wFu (n : Int) : Int := ae .u64 n
abbrev zN2 : List AV := [aB false, nS, aB false, nS]
abbrev zN3 : List AV := [aB false, nS, aB false, nS, aB false, nS]
abbrev zN4 : List AV := [aB false, nS, aB false, nS, aB false, nS, aB false, nS]
end Go.L