
import Derived.Test.YtecdcgfclgmbpaaGreatSc11Apas
import Derived.Test.YtecdcgfclgmbpaaGreatScMApas
import Derived.Test.YtecdcgfclgmbpaaGreatScRApas
import Derived.Test.YtecdcgfclgmbpaaGreatScUApas
import Derived.Test.YtecdcgfclgmbpaaGreatScSApas
set_option linter.all false
set_option maxRecDepth 100000
set_option maxHeartbeats 4000000
namespace Go.L
open Go Go.Eng
structure al where
 X0 : Int
 Y0 : Int
 Step : Int
 Width : Int
 Height : Int
 Z : List Int
 deriving Inhabited

structure A2 (α : Type) where
 e0 : α
 e1 : α
 deriving Inhabited, DecidableEq

structure ah where
 Negative : Bool
 Groups : List Int
 deriving Inhabited, DecidableEq

structure ai where
 Num : ah
 Den : ah
 deriving Inhabited, DecidableEq

structure an where
 A : Int
 B : Int
 At : ai
 deriving Inhabited, DecidableEq

structure ak where
 Closed : Bool
 Points : List an
 deriving Inhabited, DecidableEq

def au.K (x : A2 Int) : Value := .agg #[.int .i64 x.e0, .int .i64 x.e1]
theorem au.key : Dn au.K := fun ⟨a0, a1⟩ ⟨b0, b1⟩ => by
 have h : ((⟨a0, a1⟩ : A2 Int) == ⟨b0, b1⟩) = (a0 == b0 && (a1 == b1 && true)) := by rw [Bool.eq_iff_iff]; simp
 show some _ = some _
 rw [h]

def ag.c (x : A2 Int) : List AV := [.at (.int .i64 x.e0), .at (.int .i64 x.e1)]
theorem ag.len : ∀ x, (ag.c x).length = 2 := fun _ => rfl
theorem ag.pure : ∀ x, ct (ag.c x) = [] := fun _ => rfl

structure A3 (α : Type) where
 e0 : α
 e1 : α
 e2 : α
 deriving Inhabited

def aD.c (x : A3 Int) : List AV := [.at (.int .i64 x.e0), .at (.int .i64 x.e1), .at (.int .i64 x.e2)]
theorem aD.len : ∀ x, (aD.c x).length = 3 := fun _ => rfl
theorem aD.pure : ∀ x, ct (aD.c x) = [] := fun _ => rfl

def A3.get (x : A3 Int) (j : Int) : Int := gt [x.e0, x.e1, x.e2] j
def A3.put (x : A3 Int) (j v : Int) : A3 Int := ⟨if j.toNat = 0 then v else x.e0, if j.toNat = 1 then v else x.e1, if j.toNat = 2 then v else x.e2⟩
theorem A3.Ih {k : IntKind} (x : A3 Int) {j : Int} (v : Int) (h : inR j 3 = true) : setCells [.at (.int k x.e0), .at (.int k x.e1), .at (.int k x.e2)] j.toNat [.at (.int k v)] = [.at (.int k (x.put j v).e0), .at (.int k (x.put j v).e1), .at (.int k (x.put j v).e2)] := by
 have h1 := aI h
 have hj : j.toNat = 0 \/ j.toNat = 1 \/ j.toNat = 2 := by omega
 unfold A3.put
 rcases hj with e | e | e <;> simp only [e] <;> rfl

def an.c (x : an) : List AV := [.at (.int .i64 x.A), .at (.int .i64 x.B), .at (.bool x.At.Num.Negative), slT (iC .u32) x.At.Num.Groups, .at (.bool x.At.Den.Negative), slT (iC .u32) x.At.Den.Groups]
theorem an.len : ∀ x, (an.c x).length = 6 := fun _ => rfl
theorem an.pure : ∀ x, ct (an.c x) = [] := fun _ => rfl

def ak.c (x : ak) : List AV := [.at (.bool x.Closed), slT an.c x.Points]
theorem ak.len : ∀ x, (ak.c x).length = 2 := fun _ => rfl
theorem ak.pure : ∀ x, ct (ak.c x) = [] := fun _ => rfl

theorem an.inj : ∀ x y, an.c x = an.c y -> x = y := by
 rintro ⟨_, _, ⟨⟨_, _⟩, ⟨_, _⟩⟩⟩ ⟨_, _, ⟨⟨_, _⟩, ⟨_, _⟩⟩⟩ h
 simp only [an.c, List.cons.injEq, AV.at.injEq, Value.int.injEq, Value.bool.injEq, true_and, and_true, dR] at h
 simp_all

structure ar where
 X : ai
 Y : ai
 deriving Inhabited

def ar.c (x : ar) : List AV := [.at (.bool x.X.Num.Negative), slT (iC .u32) x.X.Num.Groups, .at (.bool x.X.Den.Negative), slT (iC .u32) x.X.Den.Groups, .at (.bool x.Y.Num.Negative), slT (iC .u32) x.Y.Num.Groups, .at (.bool x.Y.Den.Negative), slT (iC .u32) x.Y.Den.Groups]
theorem ar.len : ∀ x, (ar.c x).length = 8 := fun _ => rfl
theorem ar.pure : ∀ x, ct (ar.c x) = [] := fun _ => rfl

structure ae where
 f_from : ar
 f_to : ar
 f_ends : A2 (A2 Int)
 deriving Inhabited

def ae.c (x : ae) : List AV := [.at (.bool x.f_from.X.Num.Negative), slT (iC .u32) x.f_from.X.Num.Groups, .at (.bool x.f_from.X.Den.Negative), slT (iC .u32) x.f_from.X.Den.Groups, .at (.bool x.f_from.Y.Num.Negative), slT (iC .u32) x.f_from.Y.Num.Groups, .at (.bool x.f_from.Y.Den.Negative), slT (iC .u32) x.f_from.Y.Den.Groups, .at (.bool x.f_to.X.Num.Negative), slT (iC .u32) x.f_to.X.Num.Groups, .at (.bool x.f_to.X.Den.Negative), slT (iC .u32) x.f_to.X.Den.Groups, .at (.bool x.f_to.Y.Num.Negative), slT (iC .u32) x.f_to.Y.Num.Groups, .at (.bool x.f_to.Y.Den.Negative), slT (iC .u32) x.f_to.Y.Den.Groups, .at (.int .i64 x.f_ends.e0.e0), .at (.int .i64 x.f_ends.e0.e1), .at (.int .i64 x.f_ends.e1.e0), .at (.int .i64 x.f_ends.e1.e1)]
theorem ae.len : ∀ x, (ae.c x).length = 20 := fun _ => rfl
theorem ae.pure : ∀ x, ct (ae.c x) = [] := fun _ => rfl

def al.c (x : al) : List AV := [.at (.int .i64 x.X0), .at (.int .i64 x.Y0), .at (.int .i64 x.Step), .at (.int .i64 x.Width), .at (.int .i64 x.Height), slT (iC .i64) x.Z]
theorem al.len : ∀ x, (al.c x).length = 6 := fun _ => rfl
theorem al.pure : ∀ x, ct (al.c x) = [] := fun _ => rfl

def ai.c (x : ai) : List AV := [.at (.bool x.Num.Negative), slT (iC .u32) x.Num.Groups, .at (.bool x.Den.Negative), slT (iC .u32) x.Den.Groups]
theorem ai.len : ∀ x, (ai.c x).length = 4 := fun _ => rfl
theorem ai.pure : ∀ x, ct (ai.c x) = [] := fun _ => rfl

def ah.c (x : ah) : List AV := [.at (.bool x.Negative), slT (iC .u32) x.Groups]
theorem ah.len : ∀ x, (ah.c x).length = 2 := fun _ => rfl
theorem ah.pure : ∀ x, ct (ah.c x) = [] := fun _ => rfl

def dq (n : Nat) (k : Int) (p : Int) (p' : Int) (p'' : Int) (HO : Int) (FD : Int) (yl : List Int) (yh : Int) : Option (Bool) :=
 gdO (inR k yl.length) (
 some (decide ((IE (2 * (gt yl k))) > yh))
 )

def kq (n : Nat) (a : Int) (b : Int) : Option (A2 Int) :=
 some (A2.mk (mn a b) (mx a b))

def eY (n : Nat) (t : A3 Int) (c : Int) (c' : Int) (c'' : Int) (CN : Int) (xe : Int) (tS : List Int) (qT : Int) (p : List (A2 Int × A2 Int)) (p' : List (A2 Int × Bool)) : Option (List (A2 Int × A2 Int) × List (A2 Int × Bool)) :=
 bdO (aP (α := Int × Int × Int × Int × Bool × Int) (β := Int × Int × Int × Int × Bool) n (fun again110 (f_71, f_72, t_73, t_74, c_75, x_76) => (
 cdO (decide (x_76 < 3)) (
 gdO (inR x_76 3) (
 gdO (inR ((IE (x_76 + 1)).tmod 3) 3) (
 bdO (some (A3.get t ((IE (x_76 + 1)).tmod 3))) fun w115 => (
 bdO (α := Bool) (
 bdO (dq n (A3.get t x_76) c c' c'' CN xe tS qT) fun v120 => (
 cdO v120 (
 bdO (dq n w115 c c' c'' CN xe tS qT) fun v123 => (
 some (!v123)
 )
 ) (
 some (false)
 )
 )
 ) fun x_119 => (
 cdO x_119 (
 bdO (kq n (A3.get t x_76) w115) fun v129 => (
 again110 (v129.e0, v129.e1, t_73, t_74, true, IE (x_76 + 1))
 )
 ) (
 bdO (dq n (A3.get t x_76) c c' c'' CN xe tS qT) fun v131 => (
 cdO (!v131) (
 bdO (dq n w115 c c' c'' CN xe tS qT) fun v134 => (
 cdO v134 (
 bdO (kq n (A3.get t x_76) w115) fun v137 => (
 again110 (f_71, f_72, v137.e0, v137.e1, c_75, IE (x_76 + 1))
 )
 ) (
 again110 (f_71, f_72, t_73, t_74, c_75, IE (x_76 + 1))
 )
 )
 ) (
 again110 (f_71, f_72, t_73, t_74, c_75, IE (x_76 + 1))
 )
 )
 )
 )
 )
 )
 )
 ) (
 some ((f_71, f_72, t_73, t_74, c_75))
 )
 )) (0, 0, 0, 0, false, 0)) fun o139 => (
 match o139 with
 | (f_105, f_106, t_107, t_108, c_109) => (
 cdO c_109 (
 some ((eJ p (A2.mk f_105 f_106) (A2.mk t_107 t_108), eJ p' (A2.mk t_107 t_108) true))
 ) (
 some ((p, p'))
 )
 ))

def aW (n : Nat) (g : al) (c : Int) (c' : Int) (c'' : Int) (CN : Int) (xe : Int) (tS : List Int) (qT : Int) (C4 : List (A2 Int × A2 Int)) (CZ : List (A2 Int × Bool)) : Option (List (A2 Int × A2 Int) × List (A2 Int × Bool)) :=
 bdO (aP (α := List (A2 Int × A2 Int) × List (A2 Int × Bool) × Int) (β := List (A2 Int × A2 Int) × List (A2 Int × Bool)) n (fun again272 (c_182, c_183, x_184) => (
 cdO (decide (x_184 < (IE (g.Height - 1)))) (
 bdO (aP (α := List (A2 Int × A2 Int) × List (A2 Int × Bool) × Int) (β := List (A2 Int × A2 Int) × List (A2 Int × Bool)) n (fun again317 (c_275, c_276, x_277) => (
 cdO (decide (x_277 < (IE (g.Width - 1)))) (
 bdO (some (IE ((IE (x_184 * g.Width)) + x_277))) fun w320 => (
 bdO (some [A3.mk w320 (IE (w320 + 1)) (IE ((IE (w320 + g.Width)) + 1)), A3.mk w320 (IE ((IE (w320 + g.Width)) + 1)) (IE (w320 + g.Width))]) fun w322 => (
 bdO (aP (α := List (A2 Int × A2 Int) × List (A2 Int × Bool) × Int) (β := List (A2 Int × A2 Int) × List (A2 Int × Bool)) n (fun again340 (c_324, c_325, x_326) => (
 cdO (decide (x_326 < 2)) (
 gdO (inR x_326 w322.length) (
 gdO (inR (gt w322 x_326).e0 g.Z.length) (
 cdO (((gt g.Z (gt w322 x_326).e0) : Int) != (-2147483648)) (
 gdO (inR (gt w322 x_326).e1 g.Z.length) (
 cdO (((gt g.Z (gt w322 x_326).e1) : Int) != (-2147483648)) (
 gdO (inR (gt w322 x_326).e2 g.Z.length) (
 cdO (((gt g.Z (gt w322 x_326).e2) : Int) != (-2147483648)) (
 bdO (eY n (gt w322 x_326) c c' c'' CN xe tS qT c_324 c_325) fun v350 => (
 again340 (v350.1, v350.2, IE (x_326 + 1))
 )
 ) (
 again340 (c_324, c_325, IE (x_326 + 1))
 )
 )
 ) (
 again340 (c_324, c_325, IE (x_326 + 1))
 )
 )
 ) (
 again340 (c_324, c_325, IE (x_326 + 1))
 )
 )
 )
 ) (
 some ((c_324, c_325))
 )
 )) (c_275, c_276, 0)) fun o352 => (
 match o352 with
 | (c_338, c_339) => (
 again317 (c_338, c_339, IE (x_277 + 1))
 ))
 )
 )
 ) (
 some ((c_275, c_276))
 )
 )) (c_182, c_183, 0)) fun o355 => (
 match o355 with
 | (c_315, c_316) => (
 again272 (c_315, c_316, IE (x_184 + 1))
 ))
 ) (
 some ((c_182, c_183))
 )
 )) (C4, CZ, 0)) fun o358 => (
 match o358 with
 | (c_270, c_271) => (
 some ((c_270, c_271))
 ))

def fi (n : Nat) (a : A2 Int) (b : A2 Int) : Option (Int) :=
 cdO ((a.e0 : Int) != b.e0) (
 some (IE (a.e0 - b.e0))
 ) (
 some (IE (a.e1 - b.e1))
 )

def aA (n : Nat) (x' : List (A2 Int)) : Option (List (A2 Int)) :=
 gdO (decide (x'.length < 4611686018427387904)) (
 ux (fun x y => fi n x y) x'
 )

def cH (n : Nat) (n' : Int) : Option (List Int) :=
 bdO (aP (α := Int × List Int) (β := List Int) n (fun again7 (n_1, g_2) => (
 cdO (decide (n_1 > 0)) (
 gdO (decide ((g_2.length + 1) * 4 <= 140737488355328)) (
 gdO (decide (g_2.length + 1 <= 4611686018427387904)) (
 again7 (aa .u64 (n_1.tdiv 1000000000), g_2 ++ [aa .u32 (n_1.tmod 1000000000)])
 )
 )
 ) (
 some (g_2)
 )
 )) (n', [])) fun g_6 => (
 some (g_6)
 )

def dL (n : Nat) (g : List Int) : Option (List Int) :=
 bdO (aP (α := List Int) (β := List Int) n (fun again7 g_1 => (
 cdO (decide ((g_1.length : Int) > 0)) (
 gdO (inR (IE ((g_1.length : Int) - 1)) g_1.length) (
 cdO (((gt g_1 (IE ((g_1.length : Int) - 1))) : Int) == 0) (
 gdO (inS 0 (IE ((g_1.length : Int) - 1)) g_1.length) (
 again7 ((g_1.drop (0 : Int).toNat).take ((IE ((g_1.length : Int) - 1)).toNat - (0 : Int).toNat))
 )
 ) (
 some (g_1)
 )
 )
 ) (
 some (g_1)
 )
 )) g) fun g_6 => (
 some (g_6)
 )

def bM (n : Nat) (negative : Bool) (g : List Int) : Option (ah) :=
 bdO (dL n g) fun v1 => (
 cdO (((v1.length : Int) : Int) == 0) (
 some (ah.mk false [])
 ) (
 some (ah.mk negative v1)
 )
 )

def fj (n : Nat) (n' : Int) : Option (ah) :=
 cdO (decide (n' < 0)) (
 bdO (cH n (aa .u64 (0 - (aa .u64 n')))) fun v2 => (
 bdO (bM n true v2) fun v4 => (
 some (v4)
 )
 )
 ) (
 bdO (cH n (aa .u64 n')) fun v6 => (
 bdO (bM n false v6) fun v8 => (
 some (v8)
 )
 )
 )

def lS (n : Nat) (g : Int) : Option (Bool) :=
 some (decide (g >= 1000000000))

def bu (n : Nat) (s : List Int) : Option (Int) :=
 bdO (aP (α := Int) (β := Sum (Unit) (Int)) n (fun again7 x_1 => (
 cdO (decide (x_1 < (s.length : Int))) (
 gdO (inR x_1 s.length) (
 bdO (lS n (gt s x_1)) fun v10 => (
 cdO v10 (
 some (Sum.inr (x_1))
 ) (
 again7 (IE (x_1 + 1))
 )
 )
 )
 ) (
 some (Sum.inl ())
 )
 )) 0) fun o13 => (
 match o13 with
 | .inl _ => (
 some ((-1))
 )
 | .inr (r0) => (
 some r0
 ))

def aZ (n : Nat) (s : List Int) : Option (Bool) :=
 bdO (bu n s) fun v1 => (
 some (decide (v1 >= 0))
 )

def dW (n : Nat) (x' : ah) : Option (Bool) :=
 cdO (((x'.Groups.length : Int) : Int) == 0) (
 some (!x'.Negative)
 ) (
 gdO (inR (IE ((x'.Groups.length : Int) - 1)) x'.Groups.length) (
 cdO (((gt x'.Groups (IE ((x'.Groups.length : Int) - 1))) : Int) != 0) (
 bdO (aZ n x'.Groups) fun v4 => (
 some (!v4)
 )
 ) (
 some (false)
 )
 )
 )

def eK (n : Nat) (n' : ah) : Option (ah) :=
 bdO (dW n n') fun v1 => (
 cdO v1 (
 some (n')
 ) (
 bdO (fj n 0) fun v4 => (
 some (v4)
 )
 )
 )

def bB (n : Nat) (x' : ah) : Option (List Int) :=
 bdO (dW n x') fun v1 => (
 cdO (!v1) (
 some ([])
 ) (
 some (x'.Groups)
 )
 )

def dx (n : Nat) (x' : ah) : Option (Int) :=
 bdO (bB n x') fun v1 => (
 cdO (((v1.length : Int) : Int) == 0) (
 some (0)
 ) (
 cdO x'.Negative (
 some ((-1))
 ) (
 some (1)
 )
 )
 )

def cc (n : Nat) (s : List Int) : Option (List Int) :=
 gdO (decide ((0 + s.length) * 4 <= 140737488355328)) (
 gdO (decide (0 + s.length <= 4611686018427387904)) (
 some (s)
 )
 )

def dU (n : Nat) (x' : ah) : Option (ah) :=
 bdO (bB n x') fun v1 => (
 bdO (cc n v1) fun v3 => (
 bdO (bM n (!x'.Negative) v3) fun v5 => (
 some (v5)
 )
 )
 )




def iE (n : Nat) (a : List Int) (b : List Int) : Option (List Int) :=
 gdO (decide (0 <= IE ((a.length : Int) + (b.length : Int)))) (
 gdO (decide ((4 : Int) * (IE ((a.length : Int) + (b.length : Int))) <= 281474976710656)) (
 gdO (decide (IE ((a.length : Int) + (b.length : Int)) <= 9223372036854775807)) (
 bdO (aP (α := List Int × Int) (β := List Int) n (fun again25 (o_4, x_5) => (
 cdO (decide (x_5 < (a.length : Int))) (
 gdO (inR x_5 a.length) (
 bdO (aP (α := List Int × Int × Int) (β := List Int × Int) n (fun again36 (o_28, c_29, x_30) => (
 cdO (decide (x_30 < (b.length : Int))) (
 gdO (inR x_30 b.length) (
 gdO (inR (IE (x_5 + x_30)) o_28.length) (
 again36 (o_28.set (IE (x_5 + x_30)).toNat (aa .u32 ((aa .u64 ((aa .u64 ((aa .u64 (gt o_28 (IE (x_5 + x_30)))) + (aa .u64 ((aa .u64 (gt a x_5)) * (aa .u64 (gt b x_30)))))) + c_29)).tmod 1000000000)), aa .u64 ((aa .u64 ((aa .u64 ((aa .u64 (gt o_28 (IE (x_5 + x_30)))) + (aa .u64 ((aa .u64 (gt a x_5)) * (aa .u64 (gt b x_30)))))) + c_29)).tdiv 1000000000), IE (x_30 + 1))
 )
 )
 ) (
 some ((o_28, c_29))
 )
 )) (o_4, 0, 0)) fun o40 => (
 match o40 with
 | (o_34, c_35) => (
 gdO (inR (IE (x_5 + (b.length : Int))) o_34.length) (
 again25 (o_34.set (IE (x_5 + (b.length : Int))).toNat (aa .u32 c_35), IE (x_5 + 1))
 )
 ))
 )
 ) (
 some (o_4)
 )
 )) (List.replicate (IE ((a.length : Int) + (b.length : Int))).toNat ((0 : Int) : Int), 0)) fun o_24 => (
 bdO (dL n o_24) fun v47 => (
 some (v47)
 )
 )
 )
 )
 )

def mM (n : Nat) (g : List Int) : Option (List Int) :=
 bdO (aP (α := List Int) (β := List Int) n (fun again22 g_16 => (
 cdO (decide ((g_16.length : Int) > 0)) (
 gdO (inR (IE ((g_16.length : Int) - 1)) g_16.length) (
 cdO (((gt g_16 (IE ((g_16.length : Int) - 1))) : Int) == 0) (
 gdO (inS 0 (IE ((g_16.length : Int) - 1)) g_16.length) (
 again22 (g_16.take (IE ((g_16.length : Int) - 1)).toNat)
 )
 ) (
 some (g_16)
 )
 )
 ) (
 some (g_16)
 )
 )) g) fun g_21 => (
 some (g_21)
 )

def iv (n : Nat) (a : List Int) (b : List Int) : Option (List Int) :=
 gdO (decide (0 <= IE ((a.length : Int) + (b.length : Int)))) (
 gdO (decide ((4 : Int) * (IE ((a.length : Int) + (b.length : Int))) <= 281474976710656)) (
 gdO (decide (IE ((a.length : Int) + (b.length : Int)) <= 9223372036854775807)) (
 bdO (aP (α := List Int × Int) (β := List Int) n (fun again74 (o_53, x_54) => (
 cdO (decide (x_54 < (a.length : Int))) (
 gdO (inR x_54 a.length) (
 bdO (aP (α := List Int × Int × Int) (β := List Int × Int) n (fun again85 (o_77, c_78, x_79) => (
 cdO (decide (x_79 < (b.length : Int))) (
 gdO (inR x_79 b.length) (
 gdO (inR (IE (x_54 + x_79)) o_77.length) (
 again85 (o_77.set (IE (x_54 + x_79)).toNat (aa .u32 ((aa .u64 ((aa .u64 ((aa .u64 (gt o_77 (IE (x_54 + x_79)))) + (aa .u64 ((aa .u64 (gt a x_54)) * (aa .u64 (gt b x_79)))))) + c_78)).tmod 1000000000)), aa .u64 ((aa .u64 ((aa .u64 ((aa .u64 (gt o_77 (IE (x_54 + x_79)))) + (aa .u64 ((aa .u64 (gt a x_54)) * (aa .u64 (gt b x_79)))))) + c_78)).tdiv 1000000000), IE (x_79 + 1))
 )
 )
 ) (
 some ((o_77, c_78))
 )
 )) (o_53, 0, 0)) fun o89 => (
 match o89 with
 | (o_83, c_84) => (
 gdO (inR (IE (x_54 + (b.length : Int))) o_83.length) (
 again74 (o_83.set (IE (x_54 + (b.length : Int))).toNat (aa .u32 c_84), IE (x_54 + 1))
 )
 ))
 )
 ) (
 some (o_53)
 )
 )) (List.replicate (IE ((a.length : Int) + (b.length : Int))).toNat ((0 : Int) : Int), 0)) fun o_73 => (
 bdO (mM n o_73) fun v96 => (
 some (v96)
 )
 )
 )
 )
 )

def fJ (n : Nat) (g : List Int) (i : Int) : Option (Int) :=
 cdO (decide (i < (g.length : Int))) (
 gdO (inR i g.length) (
 some ((gt g i))
 )
 ) (
 some (0)
 )

def ie (n : Nat) (a : List Int) (b : List Int) : Option (List Int × List Int) :=
 gdO (inR (IE ((b.length : Int) - 1)) b.length) (
 gdO (!decide (aa .u64 ((aa .u64 (gt b (IE ((b.length : Int) - 1)))) + 1) = 0)) (
 bdO (iv n a [aa .u32 (aa .u64 ((1000000000 : Int).tdiv (aa .u64 ((aa .u64 (gt b (IE ((b.length : Int) - 1)))) + 1))))]) fun v3 => (
 bdO (iv n b [aa .u32 (aa .u64 ((1000000000 : Int).tdiv (aa .u64 ((aa .u64 (gt b (IE ((b.length : Int) - 1)))) + 1))))]) fun v5 => (
 gdO (decide ((v3.length + 1) * 4 <= 140737488355328)) (
 gdO (decide (v3.length + 1 <= 4611686018427387904)) (
 bdO (α := List Int) (
 cdO (decide (((v3 ++ [(0 : Int)]).length : Int) <= (a.length : Int))) (
 gdO (decide (((v3 ++ [(0 : Int)]).length + 1) * 4 <= 140737488355328)) (
 gdO (decide ((v3 ++ [(0 : Int)]).length + 1 <= 4611686018427387904)) (
 some ((v3 ++ [(0 : Int)]) ++ [(0 : Int)])
 )
 )
 ) (
 some (v3 ++ [(0 : Int)])
 )
 ) fun u_9 => (
 gdO (decide (0 <= IE ((u_9.length : Int) - (v5.length : Int)))) (
 gdO (decide ((4 : Int) * (IE ((u_9.length : Int) - (v5.length : Int))) <= 281474976710656)) (
 gdO (decide (IE ((u_9.length : Int) - (v5.length : Int)) <= 9223372036854775807)) (
 bdO (aP (α := List Int × List Int × Int) (β := List Int × List Int) n (fun again129 (q_19, u_20, j_21) => (
 cdO (decide (j_21 >= 0)) (
 bdO (fJ n u_20 (IE (j_21 + (v5.length : Int)))) fun v132 => (
 gdO (inR (IE ((IE (j_21 + (v5.length : Int))) - 1)) u_20.length) (
 gdO (inR (IE ((v5.length : Int) - 1)) v5.length) (
 gdO (!decide (aa .u64 (gt v5 (IE ((v5.length : Int) - 1))) = 0)) (
 bdO (aP (α := Int × Int) (β := Int) n (fun again165 (g_156, r_157) => (
 cdO (decide (g_156 >= 1000000000)) (
 cdO (decide ((aa .u64 (r_157 + (aa .u64 (gt v5 (IE ((v5.length : Int) - 1)))))) >= 1000000000)) (
 some (aa .u64 (g_156 - 1))
 ) (
 again165 (aa .u64 (g_156 - 1), aa .u64 (r_157 + (aa .u64 (gt v5 (IE ((v5.length : Int) - 1))))))
 )
 ) (
 gdO (inR (IE ((v5.length : Int) - 2)) v5.length) (
 gdO (inR (IE ((IE (j_21 + (v5.length : Int))) - 2)) u_20.length) (
 cdO (decide ((aa .u64 (g_156 * (aa .u64 (gt v5 (IE ((v5.length : Int) - 2)))))) > (aa .u64 ((aa .u64 (r_157 * 1000000000)) + (aa .u64 (gt u_20 (IE ((IE (j_21 + (v5.length : Int))) - 2)))))))) (
 cdO (decide ((aa .u64 (r_157 + (aa .u64 (gt v5 (IE ((v5.length : Int) - 1)))))) >= 1000000000)) (
 some (aa .u64 (g_156 - 1))
 ) (
 again165 (aa .u64 (g_156 - 1), aa .u64 (r_157 + (aa .u64 (gt v5 (IE ((v5.length : Int) - 1))))))
 )
 ) (
 some (g_156)
 )
 )
 )
 )
 )) (aa .u64 ((aa .u64 ((aa .u64 ((aa .u64 v132) * 1000000000)) + (aa .u64 (gt u_20 (IE ((IE (j_21 + (v5.length : Int))) - 1)))))).tdiv (aa .u64 (gt v5 (IE ((v5.length : Int) - 1))))), (aa .u64 ((aa .u64 ((aa .u64 v132) * 1000000000)) + (aa .u64 (gt u_20 (IE ((IE (j_21 + (v5.length : Int))) - 1)))))).tmod (aa .u64 (gt v5 (IE ((v5.length : Int) - 1)))))) fun g_164 => (
 bdO (aP (α := List Int × Int × Int × Int) (β := List Int × Int × Int) n (fun again205 (u_194, b_195, c_196, x_197) => (
 cdO (decide (x_197 < (v5.length : Int))) (
 gdO (inR x_197 v5.length) (
 gdO (inR (IE (x_197 + j_21)) u_194.length) (
 cdO (decide ((IE ((IE ((IE (gt u_194 (IE (x_197 + j_21)))) - b_195)) - (IE ((aa .u64 ((aa .u64 (g_164 * (aa .u64 (gt v5 x_197)))) + c_196)).tmod 1000000000)))) < 0)) (
 again205 (u_194.set (IE (x_197 + j_21)).toNat (aa .u32 (IE ((IE ((IE ((IE (gt u_194 (IE (x_197 + j_21)))) - b_195)) - (IE ((aa .u64 ((aa .u64 (g_164 * (aa .u64 (gt v5 x_197)))) + c_196)).tmod 1000000000)))) + 1000000000))), 1, aa .u64 ((aa .u64 ((aa .u64 (g_164 * (aa .u64 (gt v5 x_197)))) + c_196)).tdiv 1000000000), IE (x_197 + 1))
 ) (
 again205 (u_194.set (IE (x_197 + j_21)).toNat (aa .u32 (IE ((IE ((IE (gt u_194 (IE (x_197 + j_21)))) - b_195)) - (IE ((aa .u64 ((aa .u64 (g_164 * (aa .u64 (gt v5 x_197)))) + c_196)).tmod 1000000000))))), 0, aa .u64 ((aa .u64 ((aa .u64 (g_164 * (aa .u64 (gt v5 x_197)))) + c_196)).tdiv 1000000000), IE (x_197 + 1))
 )
 )
 )
 ) (
 some ((u_194, b_195, c_196))
 )
 )) (u_20, 0, 0, 0)) fun o210 => (
 match o210 with
 | (u_202, b_203, c_204) => (
 gdO (inR (IE (j_21 + (v5.length : Int))) u_202.length) (
 cdO (decide ((IE ((IE ((IE (gt u_202 (IE (j_21 + (v5.length : Int))))) - b_203)) - (IE c_204))) < 0)) (
 bdO (aP (α := List Int × Int × Int) (β := List Int × Int) n (fun again224 (u_215, c_216, x_217) => (
 cdO (decide (x_217 < (v5.length : Int))) (
 gdO (inR (IE (x_217 + j_21)) u_215.length) (
 gdO (inR x_217 v5.length) (
 cdO (decide ((aa .u32 ((aa .u32 ((gt u_215 (IE (x_217 + j_21))) + (gt v5 x_217))) + c_216)) >= 1000000000)) (
 again224 (u_215.set (IE (x_217 + j_21)).toNat (aa .u32 ((aa .u32 ((aa .u32 ((gt u_215 (IE (x_217 + j_21))) + (gt v5 x_217))) + c_216)) - 1000000000)), 1, IE (x_217 + 1))
 ) (
 again224 (u_215.set (IE (x_217 + j_21)).toNat (aa .u32 ((aa .u32 ((gt u_215 (IE (x_217 + j_21))) + (gt v5 x_217))) + c_216)), 0, IE (x_217 + 1))
 )
 )
 )
 ) (
 some ((u_215, c_216))
 )
 )) (u_202.set (IE (j_21 + (v5.length : Int))).toNat (aa .u32 (IE ((IE ((IE ((IE (gt u_202 (IE (j_21 + (v5.length : Int))))) - b_203)) - (IE c_204))) + 1000000000))), 0, 0)) fun o229 => (
 match o229 with
 | (u_222, c_223) => (
 gdO (inR (IE (j_21 + (v5.length : Int))) u_222.length) (
 gdO (inR j_21 q_19.length) (
 again129 (q_19.set j_21.toNat (aa .u32 (aa .u64 (g_164 - 1))), u_222.set (IE (j_21 + (v5.length : Int))).toNat ((aa .u32 ((gt u_222 (IE (j_21 + (v5.length : Int)))) + c_223)).tmod 1000000000), IE (j_21 - 1))
 )
 )
 ))
 ) (
 gdO (inR j_21 q_19.length) (
 again129 (q_19.set j_21.toNat (aa .u32 g_164), u_202.set (IE (j_21 + (v5.length : Int))).toNat (aa .u32 (IE ((IE ((IE (gt u_202 (IE (j_21 + (v5.length : Int))))) - b_203)) - (IE c_204)))), IE (j_21 - 1))
 )
 )
 )
 ))
 )
 )
 )
 )
 )
 ) (
 some ((q_19, u_20))
 )
 )) (List.replicate (IE ((u_9.length : Int) - (v5.length : Int))).toNat ((0 : Int) : Int), u_9, IE ((IE ((u_9.length : Int) - (v5.length : Int))) - 1))) fun o235 => (
 match o235 with
 | (q_127, u_128) => (
 gdO (inS 0 (v5.length : Int) u_128.length) (
 bdO (dL n (u_128.take (v5.length : Int).toNat)) fun v239 => (
 bdO (eO n v239 (aa .u32 (aa .u64 ((1000000000 : Int).tdiv (aa .u64 ((aa .u64 (gt b (IE ((b.length : Int) - 1)))) + 1)))))) fun v241 => (
 bdO (dL n q_127) fun v243 => (
 some ((v243, v241.1))
 )
 )
 )
 )
 ))
 )
 )
 )
 )
 )
 )
 )
 )
 )
 )

def gk (n : Nat) (a : List Int) (b : List Int) : Option (List Int × List Int) :=
 bdO (fk n a b) fun v1 => (
 cdO (decide (v1 < 0)) (
 some (([], a))
 ) (
 bdO (gi n a) fun v4 => (
 bdO (gi n b) fun v6 => (
 cdO v4.2 (
 cdO v6.2 (
 gdO (!decide (v6.1 = 0)) (
 bdO (cH n (aa .u64 (v4.1.tdiv v6.1))) fun v11 => (
 bdO (cH n (v4.1.tmod v6.1)) fun v13 => (
 some ((v11, v13))
 )
 )
 )
 ) (
 cdO (((b.length : Int) : Int) == 1) (
 gdO (inR 0 b.length) (
 bdO (eO n a (gt b 0)) fun v17 => (
 bdO (cH n (aa .u64 v17.2)) fun v19 => (
 some ((v17.1, v19))
 )
 )
 )
 ) (
 bdO (ie n a b) fun v21 => (
 some ((v21.1, v21.2))
 )
 )
 )
 ) (
 cdO (((b.length : Int) : Int) == 1) (
 gdO (inR 0 b.length) (
 bdO (eO n a (gt b 0)) fun v25 => (
 bdO (cH n (aa .u64 v25.2)) fun v27 => (
 some ((v25.1, v27))
 )
 )
 )
 ) (
 bdO (ie n a b) fun v29 => (
 some ((v29.1, v29.2))
 )
 )
 )
 )
 )
 )
 )

def gV (n : Nat) (x' : ah) (y : ah) : Option (ah) :=
 bdO (bB n x') fun v1 => (
 bdO (bB n y) fun v3 => (
 bdO (aP (α := List Int × List Int) (β := Sum (List Int) (ah)) n (fun again34 (a_5, b_6) => (
 cdO (decide ((b_6.length : Int) > 0)) (
 bdO (gi n a_5) fun v36 => (
 bdO (gi n b_6) fun v38 => (
 cdO v36.2 (
 cdO v38.2 (
 bdO (aP (α := Int × Int) (β := Int) n (fun again47 (m_42, n_43) => (
 cdO (decide (n_43 > 0)) (
 gdO (!decide (n_43 = 0)) (
 again47 (n_43, m_42.tmod n_43)
 )
 ) (
 some (m_42)
 )
 )) (v36.1, v38.1)) fun m_46 => (
 bdO (cH n m_46) fun v53 => (
 bdO (bM n false v53) fun v55 => (
 some (Sum.inr (v55))
 )
 )
 )
 ) (
 bdO (gk n a_5 b_6) fun v57 => (
 again34 (b_6, v57.2)
 )
 )
 ) (
 bdO (gk n a_5 b_6) fun v59 => (
 again34 (b_6, v59.2)
 )
 )
 )
 )
 ) (
 some (Sum.inl a_5)
 )
 )) (v1, v3)) fun o61 => (
 match o61 with
 | .inl a_33 => (
 bdO (cc n a_33) fun v64 => (
 bdO (bM n false v64) fun v66 => (
 some (v66)
 )
 )
 )
 | .inr (r0) => (
 some r0
 ))
 )
 )

def ji (n : Nat) (a : List Int) (b : List Int) : Option (List Int) :=
 gdO (decide (0 <= IE ((mx (a.length : Int) (b.length : Int)) + 1))) (
 gdO (decide ((4 : Int) * (IE ((mx (a.length : Int) (b.length : Int)) + 1)) <= 281474976710656)) (
 gdO (decide (IE ((mx (a.length : Int) (b.length : Int)) + 1) <= 9223372036854775807)) (
 bdO (aP (α := List Int × Int × Int) (β := List Int) n (fun again16 (o_4, c_5, x_6) => (
 cdO (decide (x_6 < ((List.replicate (IE ((mx (a.length : Int) (b.length : Int)) + 1)).toNat ((0 : Int) : Int)).length : Int))) (
 bdO (fJ n a x_6) fun v18 => (
 bdO (fJ n b x_6) fun v20 => (
 cdO (decide ((aa .u32 ((aa .u32 (v18 + v20)) + c_5)) >= 1000000000)) (
 gdO (inR x_6 o_4.length) (
 again16 (o_4.set x_6.toNat (aa .u32 ((aa .u32 ((aa .u32 (v18 + v20)) + c_5)) - 1000000000)), 1, IE (x_6 + 1))
 )
 ) (
 gdO (inR x_6 o_4.length) (
 again16 (o_4.set x_6.toNat (aa .u32 ((aa .u32 (v18 + v20)) + c_5)), 0, IE (x_6 + 1))
 )
 )
 )
 )
 ) (
 some (o_4)
 )
 )) (List.replicate (IE ((mx (a.length : Int) (b.length : Int)) + 1)).toNat ((0 : Int) : Int), 0, 0)) fun o_15 => (
 bdO (dL n o_15) fun v28 => (
 some (v28)
 )
 )
 )
 )
 )

def gu (n : Nat) (a : List Int) (b : List Int) : Option (List Int) :=
 gdO (decide (0 <= (a.length : Int))) (
 gdO (decide ((4 : Int) * (a.length : Int) <= 281474976710656)) (
 gdO (decide ((a.length : Int) <= 9223372036854775807)) (
 bdO (aP (α := List Int × Int × Int) (β := List Int) n (fun again15 (o_4, b_5, x_6) => (
 cdO (decide (x_6 < ((List.replicate (a.length : Int).toNat ((0 : Int) : Int)).length : Int))) (
 bdO (fJ n b x_6) fun v17 => (
 gdO (inR x_6 a.length) (
 cdO (decide ((gt a x_6) < (aa .u32 (v17 + b_5)))) (
 gdO (inR x_6 o_4.length) (
 again15 (o_4.set x_6.toNat (aa .u32 ((aa .u32 ((gt a x_6) + 1000000000)) - (aa .u32 (v17 + b_5)))), 1, IE (x_6 + 1))
 )
 ) (
 gdO (inR x_6 o_4.length) (
 again15 (o_4.set x_6.toNat (aa .u32 ((gt a x_6) - (aa .u32 (v17 + b_5)))), 0, IE (x_6 + 1))
 )
 )
 )
 )
 ) (
 some (o_4)
 )
 )) (List.replicate (a.length : Int).toNat ((0 : Int) : Int), 0, 0)) fun o_14 => (
 bdO (dL n o_14) fun v26 => (
 some (v26)
 )
 )
 )
 )
 )

def dd (n : Nat) (x' : ah) (y : ah) : Option (ah × ah × Int) :=
 bdO (bB n x') fun v1 => (
 bdO (bB n y) fun v3 => (
 cdO (((v3.length : Int) : Int) == 0) (
 some ((ah.mk false [], ah.mk false [], 14))
 ) (
 bdO (gk n v1 v3) fun v6 => (
 bdO (cc n v6.2) fun v8 => (
 cdO (decide ((v8.length : Int) > 0)) (
 cdO (x'.Negative != y.Negative) (
 bdO (ji n v6.1 [(1 : Int)]) fun v12 => (
 bdO (gu n v3 v8) fun v14 => (
 bdO (bM n true v12) fun v16 => (
 bdO (bM n y.Negative v14) fun v18 => (
 some ((v16, v18, 0))
 )
 )
 )
 )
 ) (
 bdO (bM n false v6.1) fun v20 => (
 bdO (bM n y.Negative v8) fun v22 => (
 some ((v20, v22, 0))
 )
 )
 )
 ) (
 bdO (bM n (x'.Negative != y.Negative) v6.1) fun v24 => (
 bdO (bM n y.Negative v8) fun v26 => (
 some ((v24, v26, 0))
 )
 )
 )
 )
 )
 )
 )
 )

def dS (n : Nat) (num : ah) (den : ah) : Option (ai) :=
 bdO (dx n den) fun v1 => (
 cdO (decide (v1 < 0)) (
 bdO (dU n num) fun v4 => (
 bdO (dU n den) fun v6 => (
 bdO (gV n v4 v6) fun v8 => (
 bdO (dd n v4 v8) fun v10 => (
 bdO (dd n v6 v8) fun v12 => (
 some (ai.mk v10.1 v12.1)
 )
 )
 )
 )
 )
 ) (
 bdO (gV n num den) fun v14 => (
 bdO (dd n num v14) fun v16 => (
 bdO (dd n den v14) fun v18 => (
 some (ai.mk v16.1 v18.1)
 )
 )
 )
 )
 )

def jT (n : Nat) (num : ah) (den : ah) : Option (ai × Int) :=
 bdO (eK n num) fun v1 => (
 bdO (eK n den) fun v3 => (
 bdO (dx n v3) fun v5 => (
 cdO ((v5 : Int) == 0) (
 some ((ai.mk (ah.mk false []) (ah.mk false []), 14))
 ) (
 bdO (dS n v1 v3) fun v8 => (
 some ((v8, 0))
 )
 )
 )
 )
 )

def jL (n : Nat) (n' : Int) (d : Int) : Option (ai × Int) :=
 bdO (fj n n') fun v1 => (
 bdO (fj n d) fun v3 => (
 bdO (jT n v1 v3) fun v5 => (
 some ((v5.1, v5.2))
 )
 )
 )

def cC (n : Nat) (g : al) (level : Int) (e : A2 Int) : Option (an) :=
 gdO (inR e.e0 g.Z.length) (
 gdO (inR e.e1 g.Z.length) (
 bdO (jL n (IE (level - (IE (2 * (gt g.Z e.e0))))) (IE (2 * (IE ((gt g.Z e.e1) - (gt g.Z e.e0)))))) fun v3 => (
 some (an.mk e.e0 e.e1 v3.1)
 )
 )
 )

def dB (n : Nat) (start : A2 Int) (closed : Bool) (p : List (A2 Int × Bool)) (p' : Int) (p'' : Int) (HO : Int) (FD : Int) (yl : Int) (yh : List Int) (Df : Int) (qQ : List (A2 Int × A2 Int)) (rC : List ak) : Option (List (A2 Int × Bool) × List ak) :=
 bdO (aP (α := List (A2 Int × Bool) × List an × Int × Int) (β := List (A2 Int × Bool) × List an) n (fun again39 (p_27, c_28, a_29, a_30) => (
 bdO (cC n (al.mk p' p'' HO FD yl yh) Df (A2.mk a_29 a_30)) fun v40 => (
 gdO (decide ((c_28.length + 1) * 80 <= 140737488355328)) (
 gdO (decide (c_28.length + 1 <= 4611686018427387904)) (
 cdO (!(cD qQ (A2.mk a_29 a_30))) (
 some ((eJ p_27 (A2.mk a_29 a_30) true, c_28 ++ [v40]))
 ) (
 cdO (getM false (eJ p_27 (A2.mk a_29 a_30) true) (getM (A2.mk 0 0 : A2 Int) qQ (A2.mk a_29 a_30))) (
 some ((eJ p_27 (A2.mk a_29 a_30) true, c_28 ++ [v40]))
 ) (
 again39 (eJ p_27 (A2.mk a_29 a_30) true, c_28 ++ [v40], (getM (A2.mk 0 0 : A2 Int) qQ (A2.mk a_29 a_30)).e0, (getM (A2.mk 0 0 : A2 Int) qQ (A2.mk a_29 a_30)).e1)
 )
 )
 )
 )
 )
 )) (p, [], start.e0, start.e1)) fun o46 => (
 match o46 with
 | (p_37, c_38) => (
 gdO (decide ((rC.length + 1) * 32 <= 140737488355328)) (
 gdO (decide (rC.length + 1 <= 4611686018427387904)) (
 some ((p_37, rC ++ [ak.mk closed c_38]))
 )
 )
 ))

def fA (n : Nat) (c : ak) : Option (A2 Int) :=
 gdO (inR 0 c.Points.length) (
 some (A2.mk (gt c.Points 0).A (gt c.Points 0).B)
 )

def iu (n : Nat) (a : ak) (b : ak) : Option (Int) :=
 bdO (fA n a) fun v1 => (
 bdO (fA n b) fun v3 => (
 bdO (fi n v1 v3) fun v5 => (
 some (v5)
 )
 )
 )

def aH (n : Nat) (x' : List ak) : Option (List ak) :=
 gdO (decide (x'.length < 4611686018427387904)) (
 ux (fun x y => iu n x y) x'
 )

noncomputable def gB (n : Nat) (g : al) (level : Int) : Option (List ak) :=
 bdO (aW n g g.X0 g.Y0 g.Step g.Width g.Height g.Z level ([] : List (A2 Int × A2 Int)) ([] : List (A2 Int × Bool))) fun v1 => (
 zK (ε := A2 Int × A2 Int) (σ := List (A2 Int)) v1.1 (fun s_16 e12 => (
 gdO (decide ((s_16.length + 1) * 16 <= 140737488355328)) (
 gdO (decide (s_16.length + 1 <= 4611686018427387904)) (
 some (s_16 ++ [e12.1])
 )
 )
 )) [] fun s_16 => (
 bdO (aA n s_16) fun v21 => (
 gdO (decide (v21.length = s_16.length)) (
 bdO (aP (α := List (A2 Int × Bool) × List ak × Int) (β := List (A2 Int × Bool) × List ak) n (fun again56 (d_45, o_46, x_47) => (
 cdO (decide (x_47 < (s_16.length : Int))) (
 gdO (inR x_47 v21.length) (
 cdO (!(getM false v1.2 (gt v21 x_47))) (
 bdO (dB n (gt v21 x_47) false d_45 g.X0 g.Y0 g.Step g.Width g.Height g.Z level v1.1 o_46) fun v61 => (
 again56 (v61.1, v61.2, IE (x_47 + 1))
 )
 ) (
 again56 (d_45, o_46, IE (x_47 + 1))
 )
 )
 ) (
 some ((d_45, o_46))
 )
 )) (([] : List (A2 Int × Bool)), [], 0)) fun o63 => (
 match o63 with
 | (d_54, o_55) => (
 bdO (aP (α := List (A2 Int × Bool) × List ak × Int) (β := List ak) n (fun again76 (d_66, o_67, x_68) => (
 cdO (decide (x_68 < (v21.length : Int))) (
 gdO (inR x_68 v21.length) (
 cdO (!(getM false d_66 (gt v21 x_68))) (
 bdO (dB n (gt v21 x_68) true d_66 g.X0 g.Y0 g.Step g.Width g.Height g.Z level v1.1 o_67) fun v81 => (
 again76 (v81.1, v81.2, IE (x_68 + 1))
 )
 ) (
 again76 (d_66, o_67, IE (x_68 + 1))
 )
 )
 ) (
 some (o_67)
 )
 )) (d_54, o_55, 0)) fun o_75 => (
 bdO (aH n o_75) fun v86 => (
 gdO (decide (v86.length = o_75.length)) (
 some (v86)
 )
 )
 )
 ))
 )
 )
 )
 )

def lj (n : Nat) (x' : Int) : Option (Bool) :=
 some ((x' : Int) != x')

def lT (n : Nat) (x' : Int) (y : Int) : Option (Int) :=
 bdO (lj n x') fun v1 => (
 bdO (lj n y) fun v3 => (
 cdO v1 (
 cdO v3 (
 some (0)
 ) (
 some ((-1))
 )
 ) (
 cdO v3 (
 some (1)
 ) (
 cdO (decide (x' < y)) (
 some ((-1))
 ) (
 cdO (decide (x' > y)) (
 some (1)
 ) (
 some (0)
 )
 )
 )
 )
 )
 )

def jE (n : Nat) (x' : ah) (y : ah) : Option (Int) :=
 bdO (dx n x') fun v1 => (
 bdO (dx n y) fun v3 => (
 cdO ((v1 : Int) != v3) (
 bdO (lT n v1 v3) fun v6 => (
 some (v6)
 )
 ) (
 bdO (bB n x') fun v8 => (
 bdO (bB n y) fun v10 => (
 bdO (fk n v8 v10) fun v12 => (
 cdO x'.Negative (
 some (IE (0 - v12))
 ) (
 some (v12)
 )
 )
 )
 )
 )
 )
 )

def jV (n : Nat) (x' : ai) : Option (Bool) :=
 bdO (dW n x'.Num) fun v1 => (
 cdO (!v1) (
 some (false)
 ) (
 bdO (dW n x'.Den) fun v4 => (
 cdO (!v4) (
 some (false)
 ) (
 bdO (dx n x'.Den) fun v7 => (
 cdO (decide (v7 <= 0)) (
 some (false)
 ) (
 bdO (gV n x'.Num x'.Den) fun v10 => (
 bdO (fj n 1) fun v12 => (
 bdO (jE n v10 v12) fun v14 => (
 some ((v14 : Int) == 0)
 )
 )
 )
 )
 )
 )
 )
 )
 )

def lV (n : Nat) (x' : ai) : Option (ai) :=
 bdO (dU n x'.Num) fun v1 => (
 bdO (dU n v1) fun v3 => (
 bdO (dU n x'.Den) fun v5 => (
 bdO (dU n v5) fun v7 => (
 some (ai.mk v3 v7)
 )
 )
 )
 )

def kr (n : Nat) (n' : Int) : Option (ai) :=
 bdO (fj n n') fun v1 => (
 bdO (fj n 1) fun v3 => (
 some (ai.mk v1 v3)
 )
 )

def cq (n : Nat) (x' : ai) : Option (ai) :=
 bdO (jV n x') fun v1 => (
 cdO v1 (
 bdO (lV n x') fun v4 => (
 some (v4)
 )
 ) (
 bdO (kr n 0) fun v6 => (
 some (v6)
 )
 )
 )

def dP (n : Nat) (x' : ah) (y : ah) : Option (ah) :=
 bdO (bB n x') fun v1 => (
 bdO (bB n y) fun v3 => (
 bdO (iE n v1 v3) fun v5 => (
 bdO (bM n (x'.Negative != y.Negative) v5) fun v7 => (
 some (v7)
 )
 )
 )
 )

def qy (n : Nat) (negative : Bool) (a : List Int) (other : Bool) (b : List Int) : Option (ah) :=
 cdO (negative == other) (
 bdO (ji n a b) fun v2 => (
 bdO (bM n negative v2) fun v4 => (
 some (v4)
 )
 )
 ) (
 bdO (fk n a b) fun v6 => (
 cdO (decide (v6 >= 0)) (
 bdO (gu n a b) fun v9 => (
 bdO (bM n negative v9) fun v11 => (
 some (v11)
 )
 )
 ) (
 bdO (gu n b a) fun v13 => (
 bdO (bM n other v13) fun v15 => (
 some (v15)
 )
 )
 )
 )
 )

def qq (n : Nat) (x' : ah) (y : ah) : Option (ah) :=
 bdO (bB n x') fun v1 => (
 bdO (bB n y) fun v3 => (
 bdO (qy n x'.Negative v1 y.Negative v3) fun v5 => (
 some (v5)
 )
 )
 )

def mr (n : Nat) (x' : ai) (y : ai) : Option (ai) :=
 bdO (cq n x') fun v1 => (
 bdO (cq n y) fun v3 => (
 bdO (dP n v1.Num v3.Den) fun v5 => (
 bdO (dP n v3.Num v1.Den) fun v7 => (
 bdO (qq n v5 v7) fun v9 => (
 bdO (dP n v1.Den v3.Den) fun v11 => (
 bdO (dS n v9 v11) fun v13 => (
 some (v13)
 )
 )
 )
 )
 )
 )
 )

def pE (n : Nat) (x' : ai) : Option (ai) :=
 bdO (cq n x') fun v1 => (
 bdO (dU n v1.Num) fun v3 => (
 some (ai.mk v3 v1.Den)
 )
 )

def oQ (n : Nat) (x' : ai) (y : ai) : Option (ai) :=
 bdO (pE n y) fun v1 => (
 bdO (mr n x' v1) fun v3 => (
 some (v3)
 )
 )

def pz (n : Nat) (x' : ai) (y : ai) : Option (ai) :=
 bdO (cq n x') fun v1 => (
 bdO (cq n y) fun v3 => (
 bdO (dP n v1.Num v3.Num) fun v5 => (
 bdO (dP n v1.Den v3.Den) fun v7 => (
 bdO (dS n v5 v7) fun v9 => (
 some (v9)
 )
 )
 )
 )
 )

def lX (n : Nat) (x' : ai) (y : ai) : Option (ai × Int) :=
 bdO (cq n x') fun v1 => (
 bdO (cq n y) fun v3 => (
 bdO (dx n v3.Num) fun v5 => (
 cdO ((v5 : Int) == 0) (
 some ((ai.mk (ah.mk false []) (ah.mk false []), 14))
 ) (
 bdO (dP n v1.Num v3.Den) fun v8 => (
 bdO (dP n v1.Den v3.Num) fun v10 => (
 bdO (dS n v8 v10) fun v12 => (
 some ((v12, 0))
 )
 )
 )
 )
 )
 )
 )

def kF (n : Nat) (x' : ai) (y : ai) : Option (Int) :=
 bdO (cq n x') fun v1 => (
 bdO (cq n y) fun v3 => (
 bdO (dP n v1.Num v3.Den) fun v5 => (
 bdO (dP n v3.Num v1.Den) fun v7 => (
 bdO (jE n v5 v7) fun v9 => (
 some (v9)
 )
 )
 )
 )
 )

def nH (n : Nat) (x' : ai) : Option (Int) :=
 bdO (cq n x') fun v1 => (
 bdO (dx n v1.Num) fun v3 => (
 some (v3)
 )
 )

def aU (n : Nat) (negative : Bool) (l : List Int) : Option (ah) :=
 bdO (aP (α := Int) (β := Int) n (fun again6 n_1 => (
 cdO (decide (n_1 > 0)) (
 gdO (inR (IE (n_1 - 1)) l.length) (
 cdO (((gt l (IE (n_1 - 1))) : Int) == 0) (
 again6 (IE (n_1 - 1))
 ) (
 some (n_1)
 )
 )
 ) (
 some (n_1)
 )
 )) (l.length : Int)) fun n_5 => (
 cdO negative (
 gdO (inS 0 n_5 l.length) (
 gdO (decide ((0 + ((l.drop (0 : Int).toNat).take (n_5.toNat - (0 : Int).toNat)).length) * 4 <= 140737488355328)) (
 gdO (decide (0 + ((l.drop (0 : Int).toNat).take (n_5.toNat - (0 : Int).toNat)).length <= 4611686018427387904)) (
 some (ah.mk (decide (n_5 > 0)) ((l.drop (0 : Int).toNat).take (n_5.toNat - (0 : Int).toNat)))
 )
 )
 )
 ) (
 gdO (inS 0 n_5 l.length) (
 gdO (decide ((0 + ((l.drop (0 : Int).toNat).take (n_5.toNat - (0 : Int).toNat)).length) * 4 <= 140737488355328)) (
 gdO (decide (0 + ((l.drop (0 : Int).toNat).take (n_5.toNat - (0 : Int).toNat)).length <= 4611686018427387904)) (
 some (ah.mk false ((l.drop (0 : Int).toNat).take (n_5.toNat - (0 : Int).toNat)))
 )
 )
 )
 )
 )

def fD (n : Nat) (n' : Int) : Option (ah) :=
 cdO (decide (n' < 0)) (
 bdO (aP (α := Int × List Int) (β := List Int) n (fun again8 (u_2, l_3) => (
 cdO (decide (u_2 > 0)) (
 gdO (decide ((l_3.length + 1) * 4 <= 140737488355328)) (
 gdO (decide (l_3.length + 1 <= 4611686018427387904)) (
 again8 (aa .u64 (u_2.tdiv 1000000000), l_3 ++ [aa .u32 (u_2.tmod 1000000000)])
 )
 )
 ) (
 some (l_3)
 )
 )) (aa .u64 ((aa .u64 (IE (0 - (IE (n' + 1))))) + 1), [])) fun l_7 => (
 bdO (aU n true l_7) fun v15 => (
 some (v15)
 )
 )
 ) (
 bdO (aP (α := Int × List Int) (β := List Int) n (fun again23 (u_17, l_18) => (
 cdO (decide (u_17 > 0)) (
 gdO (decide ((l_18.length + 1) * 4 <= 140737488355328)) (
 gdO (decide (l_18.length + 1 <= 4611686018427387904)) (
 again23 (aa .u64 (u_17.tdiv 1000000000), l_18 ++ [aa .u32 (u_17.tmod 1000000000)])
 )
 )
 ) (
 some (l_18)
 )
 )) (aa .u64 n', [])) fun l_22 => (
 bdO (aU n false l_22) fun v30 => (
 some (v30)
 )
 )
 )

def bW (n : Nat) (n' : Int) : Option (ah) :=
 bdO (fD n n') fun v1 => (
 some (v1)
 )

def cz (n : Nat) (x' : ah) : Option (Bool) :=
 bdO (aP (α := Int) (β := Sum (Unit) (Bool)) n (fun again5 i_1 => (
 cdO (decide (i_1 < (x'.Groups.length : Int))) (
 gdO (inR i_1 x'.Groups.length) (
 cdO (decide ((gt x'.Groups i_1) >= 1000000000)) (
 some (Sum.inr (false))
 ) (
 again5 (IE (i_1 + 1))
 )
 )
 ) (
 some (Sum.inl ())
 )
 )) 0) fun o9 => (
 match o9 with
 | .inl _ => (
 cdO (((x'.Groups.length : Int) : Int) == 0) (
 some (!x'.Negative)
 ) (
 gdO (inR (IE ((x'.Groups.length : Int) - 1)) x'.Groups.length) (
 some (((gt x'.Groups (IE ((x'.Groups.length : Int) - 1))) : Int) != 0)
 )
 )
 )
 | .inr (r0) => (
 some r0
 ))

def bc (n : Nat) (x' : ah) : Option (ah) :=
 bdO (cz n x') fun v1 => (
 cdO (!v1) (
 some (ah.mk false [])
 ) (
 gdO (decide ((0 + x'.Groups.length) * 4 <= 140737488355328)) (
 gdO (decide (0 + x'.Groups.length <= 4611686018427387904)) (
 some (x')
 )
 )
 )
 )

def cv (n : Nat) (x' : ah) : Option (Int) :=
 bdO (bc n x') fun v1 => (
 cdO (((v1.Groups.length : Int) : Int) == 0) (
 some (0)
 ) (
 cdO v1.Negative (
 some ((-1))
 ) (
 some (1)
 )
 )
 )

def ei (n : Nat) (a : List Int) (d : Int) : Option (List Int × Int) :=
 gdO (decide (0 <= (a.length : Int))) (
 gdO (decide ((4 : Int) * (a.length : Int) <= 281474976710656)) (
 gdO (decide ((a.length : Int) <= 9223372036854775807)) (
 bdO (aP (α := List Int × Int × Int) (β := List Int × Int) n (fun again13 (q_4, r_5, i_6) => (
 cdO (decide (i_6 >= 0)) (
 gdO (inR i_6 a.length) (
 gdO (!decide (d = 0)) (
 gdO (inR i_6 q_4.length) (
 again13 (q_4.set i_6.toNat (aa .u32 (aa .u64 ((aa .u64 ((aa .u64 (r_5 * 1000000000)) + (aa .u64 (gt a i_6)))).tdiv d))), (aa .u64 ((aa .u64 (r_5 * 1000000000)) + (aa .u64 (gt a i_6)))).tmod d, IE (i_6 - 1))
 )
 )
 )
 ) (
 some ((q_4, r_5))
 )
 )) (List.replicate (a.length : Int).toNat ((0 : Int) : Int), 0, IE ((a.length : Int) - 1))) fun o18 => (
 match o18 with
 | (q_11, r_12) => (
 bdO (aU n false q_11) fun v21 => (
 some ((v21.Groups, r_12))
 )
 ))
 )
 )
 )

def cN (n : Nat) (a : List Int) (b : List Int) : Option (Int) :=
 cdO (((a.length : Int) : Int) != (b.length : Int)) (
 cdO (decide ((a.length : Int) < (b.length : Int))) (
 some ((-1))
 ) (
 some (1)
 )
 ) (
 bdO (aP (α := Int) (β := Sum (Unit) (Int)) n (fun again9 i_3 => (
 cdO (decide (i_3 >= 0)) (
 gdO (inR i_3 a.length) (
 gdO (inR i_3 b.length) (
 cdO (decide ((gt a i_3) < (gt b i_3))) (
 some (Sum.inr ((-1)))
 ) (
 cdO (decide ((gt a i_3) > (gt b i_3))) (
 some (Sum.inr (1))
 ) (
 again9 (IE (i_3 - 1))
 )
 )
 )
 )
 ) (
 some (Sum.inl ())
 )
 )) (IE ((a.length : Int) - 1))) fun o15 => (
 match o15 with
 | .inl _ => (
 some (0)
 )
 | .inr (r0) => (
 some r0
 ))
 )

def bX (n : Nat) (a : List Int) (d : Int) : Option (List Int) :=
 bdO (aP (α := List Int × Int × Int) (β := List Int × Int) n (fun again10 (o_1, c_2, i_3) => (
 cdO (decide (i_3 < (a.length : Int))) (
 gdO (inR i_3 a.length) (
 gdO (decide ((o_1.length + 1) * 4 <= 140737488355328)) (
 gdO (decide (o_1.length + 1 <= 4611686018427387904)) (
 again10 (o_1 ++ [aa .u32 ((aa .u64 ((aa .u64 ((aa .u64 (gt a i_3)) * d)) + c_2)).tmod 1000000000)], aa .u64 ((aa .u64 ((aa .u64 ((aa .u64 (gt a i_3)) * d)) + c_2)).tdiv 1000000000), IE (i_3 + 1))
 )
 )
 )
 ) (
 some ((o_1, c_2))
 )
 )) ([], 0, 0)) fun o15 => (
 match o15 with
 | (o_8, c_9) => (
 gdO (decide ((o_8.length + 1) * 4 <= 140737488355328)) (
 gdO (decide (o_8.length + 1 <= 4611686018427387904)) (
 bdO (aU n false (o_8 ++ [aa .u32 c_9])) fun v20 => (
 some (v20.Groups)
 )
 )
 )
 ))

def dD (n : Nat) (a : List Int) (d : Int) : Option (List Int) :=
 gdO (decide ((1 + a.length) * 4 <= 140737488355328)) (
 gdO (decide (1 + a.length <= 4611686018427387904)) (
 bdO (aU n false ([d] ++ a)) fun v3 => (
 some (v3.Groups)
 )
 )
 )

def aX (n : Nat) (l : List Int) (i : Int) : Option (Int) :=
 cdO (decide (i < (l.length : Int))) (
 gdO (inR i l.length) (
 some (aa .u64 (gt l i))
 )
 ) (
 some (0)
 )

def bV (n : Nat) (a : List Int) (b : List Int) : Option (List Int) :=
 bdO (aP (α := List Int × Int × Int) (β := List Int) n (fun again12 (o_1, b_2, i_3) => (
 cdO (decide (i_3 < (a.length : Int))) (
 bdO (aX n a i_3) fun v14 => (
 bdO (aX n b i_3) fun v16 => (
 gdO (decide ((o_1.length + 1) * 4 <= 140737488355328)) (
 gdO (decide (o_1.length + 1 <= 4611686018427387904)) (
 again12 (o_1 ++ [aa .u32 ((aa .u64 ((aa .u64 ((aa .u64 (1000000000 + v14)) - v16)) - b_2)).tmod 1000000000)], aa .u64 (1 - (aa .u64 ((aa .u64 ((aa .u64 ((aa .u64 (1000000000 + v14)) - v16)) - b_2)).tdiv 1000000000))), IE (i_3 + 1))
 )
 )
 )
 )
 ) (
 some (o_1)
 )
 )) ([], 0, 0)) fun o_11 => (
 bdO (aU n false o_11) fun v23 => (
 some (v23.Groups)
 )
 )

def cW (n : Nat) (a : List Int) (b : List Int) : Option (List Int × List Int) :=
 cdO (((b.length : Int) : Int) == 1) (
 gdO (inR 0 b.length) (
 bdO (ei n a (aa .u64 (gt b 0))) fun v3 => (
 bdO (aU n false [(aa .u32 v3.2)]) fun v5 => (
 some ((v3.1, v5.Groups))
 )
 )
 )
 ) (
 bdO (cN n a b) fun v7 => (
 cdO (decide (v7 < 0)) (
 some (([], a))
 ) (
 gdO (inR (IE ((b.length : Int) - 1)) b.length) (
 gdO (!decide (aa .u64 ((aa .u64 (gt b (IE ((b.length : Int) - 1)))) + 1) = 0)) (
 bdO (bX n a (aa .u64 ((1000000000 : Int).tdiv (aa .u64 ((aa .u64 (gt b (IE ((b.length : Int) - 1)))) + 1))))) fun v12 => (
 bdO (bX n b (aa .u64 ((1000000000 : Int).tdiv (aa .u64 ((aa .u64 (gt b (IE ((b.length : Int) - 1)))) + 1))))) fun v14 => (
 gdO (inS (IE ((IE ((v12.length : Int) - (b.length : Int))) + 1)) (v12.length : Int) v12.length) (
 bdO (aU n false ((v12.drop (IE ((IE ((v12.length : Int) - (b.length : Int))) + 1)).toNat).take ((v12.length : Int).toNat - (IE ((IE ((v12.length : Int) - (b.length : Int))) + 1)).toNat))) fun v17 => (
 gdO (decide (0 <= IE ((IE ((v12.length : Int) - (b.length : Int))) + 1))) (
 gdO (decide ((4 : Int) * (IE ((IE ((v12.length : Int) - (b.length : Int))) + 1)) <= 281474976710656)) (
 gdO (decide (IE ((IE ((v12.length : Int) - (b.length : Int))) + 1) <= 9223372036854775807)) (
 bdO (aP (α := List Int × List Int × Int) (β := List Int × List Int) n (fun again60 (r_22, q_23, i_24) => (
 cdO (decide (i_24 >= 0)) (
 gdO (inR i_24 v12.length) (
 bdO (dD n r_22 (gt v12 i_24)) fun v63 => (
 bdO (aX n v63 (b.length : Int)) fun v65 => (
 bdO (aX n v63 (IE ((b.length : Int) - 1))) fun v67 => (
 gdO (inR (IE ((b.length : Int) - 1)) v14.length) (
 gdO (!decide (aa .u64 ((aa .u64 (gt v14 (IE ((b.length : Int) - 1)))) + 1) = 0)) (
 bdO (bX n v14 (aa .u64 ((aa .u64 ((aa .u64 (v65 * 1000000000)) + v67)).tdiv (aa .u64 ((aa .u64 (gt v14 (IE ((b.length : Int) - 1)))) + 1))))) fun v71 => (
 bdO (bV n v63 v71) fun v73 => (
 bdO (aP (α := List Int × Int) (β := List Int × Int) n (fun again84 (r_75, g_76) => (
 bdO (cN n r_75 v14) fun v85 => (
 cdO (decide (v85 >= 0)) (
 bdO (bV n r_75 v14) fun v88 => (
 again84 (v88, aa .u64 (g_76 + 1))
 )
 ) (
 some ((r_75, g_76))
 )
 )
 )) (v73, aa .u64 ((aa .u64 ((aa .u64 (v65 * 1000000000)) + v67)).tdiv (aa .u64 ((aa .u64 (gt v14 (IE ((b.length : Int) - 1)))) + 1))))) fun o90 => (
 match o90 with
 | (r_82, g_83) => (
 gdO (inR i_24 q_23.length) (
 again60 (r_82, q_23.set i_24.toNat (aa .u32 g_83), IE (i_24 - 1))
 )
 ))
 )
 )
 )
 )
 )
 )
 )
 )
 ) (
 some ((r_22, q_23))
 )
 )) (v17.Groups, List.replicate (IE ((IE ((v12.length : Int) - (b.length : Int))) + 1)).toNat ((0 : Int) : Int), IE ((v12.length : Int) - (b.length : Int)))) fun o94 => (
 match o94 with
 | (r_58, q_59) => (
 bdO (ei n r_58 (aa .u64 ((1000000000 : Int).tdiv (aa .u64 ((aa .u64 (gt b (IE ((b.length : Int) - 1)))) + 1))))) fun v97 => (
 bdO (aU n false q_59) fun v99 => (
 some ((v99.Groups, v97.1))
 )
 )
 ))
 )
 )
 )
 )
 )
 )
 )
 )
 )
 )
 )
 )

def dj (n : Nat) (a : List Int) : Option (Int) :=
 bdO (aX n a 1) fun v1 => (
 bdO (aX n a 0) fun v3 => (
 some (aa .u64 ((aa .u64 (v1 * 1000000000)) + v3))
 )
 )

def eX (n : Nat) (x' : ah) (y : ah) : Option (ah) :=
 bdO (bc n x') fun v1 => (
 bdO (bc n y) fun v3 => (
 bdO (aP (α := List Int × List Int) (β := List Int × List Int) n (fun again16 (a_5, b_6) => (
 cdO (decide ((b_6.length : Int) > 0)) (
 cdO (decide ((a_5.length : Int) > 2)) (
 bdO (cW n a_5 b_6) fun v19 => (
 again16 (b_6, v19.2)
 )
 ) (
 cdO (decide ((b_6.length : Int) > 2)) (
 bdO (cW n a_5 b_6) fun v22 => (
 again16 (b_6, v22.2)
 )
 ) (
 some ((a_5, b_6))
 )
 )
 ) (
 some ((a_5, b_6))
 )
 )) (v1.Groups, v3.Groups)) fun o24 => (
 match o24 with
 | (a_14, b_15) => (
 cdO (((b_15.length : Int) : Int) == 0) (
 bdO (aU n false a_14) fun v28 => (
 some (v28)
 )
 ) (
 bdO (dj n a_14) fun v30 => (
 bdO (dj n b_15) fun v32 => (
 bdO (aP (α := Int × Int) (β := Int) n (fun again39 (u_34, v_35) => (
 cdO (decide (v_35 > 0)) (
 gdO (!decide (v_35 = 0)) (
 again39 (v_35, u_34.tmod v_35)
 )
 ) (
 some (u_34)
 )
 )) (v30, v32)) fun u_38 => (
 bdO (aU n false [(aa .u32 (u_38.tmod 1000000000)), (aa .u32 (aa .u64 (u_38.tdiv 1000000000)))]) fun v45 => (
 some (v45)
 )
 )
 )
 )
 )
 ))
 )
 )

def ec (n : Nat) (x' : ah) : Option (ah) :=
 bdO (bc n x') fun v1 => (
 bdO (aU n (!v1.Negative) v1.Groups) fun v3 => (
 some (v3)
 )
 )

def fE (n : Nat) (a : List Int) (b : List Int) : Option (List Int) :=
 bdO (aP (α := List Int × Int × Int) (β := List Int × Int) n (fun again20 (o_1, c_2, i_3) => (
 cdO (decide (i_3 < (a.length : Int))) (
 bdO (aX n a i_3) fun v22 => (
 bdO (aX n b i_3) fun v24 => (
 gdO (decide ((o_1.length + 1) * 4 <= 140737488355328)) (
 gdO (decide (o_1.length + 1 <= 4611686018427387904)) (
 again20 (o_1 ++ [aa .u32 ((aa .u64 ((aa .u64 (v22 + v24)) + c_2)).tmod 1000000000)], aa .u64 ((aa .u64 ((aa .u64 (v22 + v24)) + c_2)).tdiv 1000000000), IE (i_3 + 1))
 )
 )
 )
 )
 ) (
 cdO (decide (i_3 < (b.length : Int))) (
 bdO (aX n a i_3) fun v29 => (
 bdO (aX n b i_3) fun v31 => (
 gdO (decide ((o_1.length + 1) * 4 <= 140737488355328)) (
 gdO (decide (o_1.length + 1 <= 4611686018427387904)) (
 again20 (o_1 ++ [aa .u32 ((aa .u64 ((aa .u64 (v29 + v31)) + c_2)).tmod 1000000000)], aa .u64 ((aa .u64 ((aa .u64 (v29 + v31)) + c_2)).tdiv 1000000000), IE (i_3 + 1))
 )
 )
 )
 )
 ) (
 some ((o_1, c_2))
 )
 )
 )) ([], 0, 0)) fun o35 => (
 match o35 with
 | (o_18, c_19) => (
 gdO (decide ((o_18.length + 1) * 4 <= 140737488355328)) (
 gdO (decide (o_18.length + 1 <= 4611686018427387904)) (
 bdO (aU n false (o_18 ++ [aa .u32 c_19])) fun v40 => (
 some (v40.Groups)
 )
 )
 )
 ))

def fg (n : Nat) (x' : ah) (y : ah) : Option (ah) :=
 bdO (bc n x') fun v1 => (
 bdO (bc n y) fun v3 => (
 cdO (v1.Negative == v3.Negative) (
 bdO (fE n v1.Groups v3.Groups) fun v6 => (
 bdO (aU n v1.Negative v6) fun v8 => (
 some (v8)
 )
 )
 ) (
 bdO (cN n v1.Groups v3.Groups) fun v10 => (
 cdO (decide (v10 >= 0)) (
 bdO (bV n v1.Groups v3.Groups) fun v13 => (
 bdO (aU n v1.Negative v13) fun v15 => (
 some (v15)
 )
 )
 ) (
 bdO (bV n v3.Groups v1.Groups) fun v17 => (
 bdO (aU n v3.Negative v17) fun v19 => (
 some (v19)
 )
 )
 )
 )
 )
 )
 )

def cG (n : Nat) (x' : ah) (y : ah) : Option (ah) :=
 bdO (ec n y) fun v1 => (
 bdO (fg n x' v1) fun v3 => (
 some (v3)
 )
 )

def br (n : Nat) (x' : ah) (y : ah) : Option (ah) :=
 bdO (bc n x') fun v1 => (
 bdO (bc n y) fun v3 => (
 gdO (decide (0 <= IE ((v1.Groups.length : Int) + (v3.Groups.length : Int)))) (
 gdO (decide ((4 : Int) * (IE ((v1.Groups.length : Int) + (v3.Groups.length : Int))) <= 281474976710656)) (
 gdO (decide (IE ((v1.Groups.length : Int) + (v3.Groups.length : Int)) <= 9223372036854775807)) (
 bdO (aP (α := List Int × Int) (β := List Int) n (fun again30 (o_8, i_9) => (
 cdO (decide (i_9 < (v1.Groups.length : Int))) (
 bdO (aP (α := List Int × Int × Int) (β := List Int × Int) n (fun again41 (o_32, c_33, j_34) => (
 cdO (decide (j_34 < (v3.Groups.length : Int))) (
 gdO (inR (IE (i_9 + j_34)) o_32.length) (
 gdO (inR i_9 v1.Groups.length) (
 gdO (inR j_34 v3.Groups.length) (
 again41 (o_32.set (IE (i_9 + j_34)).toNat (aa .u32 ((aa .u64 ((aa .u64 ((aa .u64 (gt o_32 (IE (i_9 + j_34)))) + (aa .u64 ((aa .u64 (gt v1.Groups i_9)) * (aa .u64 (gt v3.Groups j_34)))))) + c_33)).tmod 1000000000)), aa .u64 ((aa .u64 ((aa .u64 ((aa .u64 (gt o_32 (IE (i_9 + j_34)))) + (aa .u64 ((aa .u64 (gt v1.Groups i_9)) * (aa .u64 (gt v3.Groups j_34)))))) + c_33)).tdiv 1000000000), IE (j_34 + 1))
 )
 )
 )
 ) (
 some ((o_32, c_33))
 )
 )) (o_8, 0, 0)) fun o46 => (
 match o46 with
 | (o_39, c_40) => (
 gdO (inR (IE (i_9 + (v3.Groups.length : Int))) o_39.length) (
 again30 (o_39.set (IE (i_9 + (v3.Groups.length : Int))).toNat (aa .u32 c_40), IE (i_9 + 1))
 )
 ))
 ) (
 some (o_8)
 )
 )) (List.replicate (IE ((v1.Groups.length : Int) + (v3.Groups.length : Int))).toNat ((0 : Int) : Int), 0)) fun o_29 => (
 bdO (aU n (v1.Negative != v3.Negative) o_29) fun v53 => (
 some (v53)
 )
 )
 )
 )
 )
 )
 )

def cM (n : Nat) (x' : ah) (y : ah) : Option (ah × ah × Int) :=
 bdO (bc n x') fun v1 => (
 bdO (bc n y) fun v3 => (
 cdO (((v3.Groups.length : Int) : Int) == 0) (
 some ((ah.mk false [], ah.mk false [], 14))
 ) (
 bdO (cW n v1.Groups v3.Groups) fun v6 => (
 bdO (aU n (v1.Negative != v3.Negative) v6.1) fun v8 => (
 cdO (v1.Negative != v3.Negative) (
 cdO (decide ((v6.2.length : Int) > 0)) (
 bdO (fD n 1) fun v12 => (
 bdO (cG n v8 v12) fun v14 => (
 bdO (br n v14 v3) fun v16 => (
 bdO (cG n v1 v16) fun v18 => (
 some ((v14, v18, 0))
 )
 )
 )
 )
 ) (
 bdO (br n v8 v3) fun v20 => (
 bdO (cG n v1 v20) fun v22 => (
 some ((v8, v22, 0))
 )
 )
 )
 ) (
 bdO (br n v8 v3) fun v24 => (
 bdO (cG n v1 v24) fun v26 => (
 some ((v8, v26, 0))
 )
 )
 )
 )
 )
 )
 )
 )

def cX (n : Nat) (num : ah) (den : ah) : Option (ai) :=
 bdO (eX n num den) fun v1 => (
 bdO (cv n den) fun v3 => (
 cdO (decide (v3 < 0)) (
 bdO (ec n v1) fun v6 => (
 bdO (cM n num v6) fun v8 => (
 bdO (cM n den v6) fun v10 => (
 some (ai.mk v8.1 v10.1)
 )
 )
 )
 ) (
 bdO (cM n num v1) fun v12 => (
 bdO (cM n den v1) fun v14 => (
 some (ai.mk v12.1 v14.1)
 )
 )
 )
 )
 )

def kx (n : Nat) (num : ah) (den : ah) : Option (ai × Int) :=
 bdO (cv n den) fun v1 => (
 cdO ((v1 : Int) == 0) (
 some ((ai.mk (ah.mk false []) (ah.mk false []), 14))
 ) (
 bdO (cX n num den) fun v4 => (
 some ((v4, 0))
 )
 )
 )

def kW (n : Nat) (n' : Int) (d : Int) : Option (ai × Int) :=
 bdO (bW n n') fun v1 => (
 bdO (bW n d) fun v3 => (
 bdO (kx n v1 v3) fun v5 => (
 some ((v5.1, v5.2))
 )
 )
 )

def eE (n : Nat) (x' : ah) (y : ah) : Option (Int) :=
 bdO (cG n x' y) fun v1 => (
 bdO (cv n v1) fun v3 => (
 some (v3)
 )
 )

def bI (n : Nat) (x' : ai) : Option (Bool) :=
 bdO (cz n x'.Num) fun v1 => (
 cdO (!v1) (
 some (false)
 ) (
 bdO (cz n x'.Den) fun v4 => (
 cdO (!v4) (
 some (false)
 ) (
 bdO (cv n x'.Den) fun v7 => (
 cdO (decide (v7 <= 0)) (
 some (false)
 ) (
 bdO (eX n x'.Num x'.Den) fun v10 => (
 bdO (bW n 1) fun v12 => (
 bdO (eE n v10 v12) fun v14 => (
 some ((v14 : Int) == 0)
 )
 )
 )
 )
 )
 )
 )
 )
 )

def bH (n : Nat) (n' : Int) : Option (ai) :=
 bdO (bW n n') fun v1 => (
 bdO (bW n 1) fun v3 => (
 some (ai.mk v1 v3)
 )
 )

def ck (n : Nat) (x' : ai) : Option (ai) :=
 bdO (bI n x') fun v1 => (
 cdO v1 (
 some (x')
 ) (
 bdO (bH n 0) fun v4 => (
 some (v4)
 )
 )
 )

def fY (n : Nat) (x' : ai) : Option (ai) :=
 bdO (ck n x') fun v1 => (
 bdO (ec n v1.Num) fun v3 => (
 some (ai.mk v3 v1.Den)
 )
 )

def bE (n : Nat) (x' : ai) (y : ai) : Option (ai) :=
 bdO (ck n x') fun v1 => (
 bdO (ck n y) fun v3 => (
 bdO (br n v1.Num v3.Den) fun v5 => (
 bdO (br n v3.Num v1.Den) fun v7 => (
 bdO (fg n v5 v7) fun v9 => (
 bdO (br n v1.Den v3.Den) fun v11 => (
 bdO (cX n v9 v11) fun v13 => (
 some (v13)
 )
 )
 )
 )
 )
 )
 )

def bf (n : Nat) (x' : ai) (y : ai) : Option (ai) :=
 bdO (fY n y) fun v1 => (
 bdO (bE n x' v1) fun v3 => (
 some (v3)
 )
 )

def di (n : Nat) (x' : ai) : Option (Int) :=
 bdO (ck n x') fun v1 => (
 bdO (cv n v1.Num) fun v3 => (
 some (v3)
 )
 )

def bh (n : Nat) (x' : ai) (y : ai) : Option (Int) :=
 bdO (bf n x' y) fun v1 => (
 bdO (di n v1) fun v3 => (
 some (v3)
 )
 )

def jG (n : Nat) (x' : ai) (y : ai) : Option (Bool) :=
 bdO (bI n x') fun v1 => (
 cdO v1 (
 bdO (bI n y) fun v4 => (
 cdO v4 (
 bdO (bh n x' y) fun v7 => (
 some ((v7 : Int) == 0)
 )
 ) (
 some (false)
 )
 )
 ) (
 some (false)
 )
 )

def jn (n : Nat) : Option (Bool) := some true

def kg (n : Nat) (g : al) (n' : Int) : Option (Bool) :=
 some (decide ((g.Z.length : Int) <= n'))

def dC (n : Nat) (n' : Int) : Option (Bool) :=
 cdO (decide (n' < (-1048576))) (
 some (true)
 ) (
 some (decide (n' > 1048576))
 )

def fo (n : Nat) (g : al) : Option (Int) :=
 cdO (decide (g.Width < 2)) (
 some (2)
 ) (
 cdO (decide (g.Width > 64)) (
 some (2)
 ) (
 cdO (decide (g.Height < 2)) (
 some (2)
 ) (
 cdO (decide (g.Height > 64)) (
 some (2)
 ) (
 cdO (decide (g.Step < 2)) (
 some (2)
 ) (
 cdO (decide (g.Step > 65536)) (
 some (2)
 ) (
 cdO (((g.Step.tmod 2) : Int) != 0) (
 some (2)
 ) (
 bdO (dC n g.X0) fun v8 => (
 cdO v8 (
 some (2)
 ) (
 bdO (dC n g.Y0) fun v11 => (
 cdO v11 (
 some (2)
 ) (
 cdO (((g.Z.length : Int) : Int) != (IE (g.Width * g.Height))) (
 some (4)
 ) (
 bdO (aP (α := Int) (β := Sum (Unit) (Int)) n (fun again22 x_15 => (
 cdO (decide (x_15 < (g.Z.length : Int))) (
 gdO (inR x_15 g.Z.length) (
 cdO (((gt g.Z x_15) : Int) != (-2147483648)) (
 bdO (dC n (gt g.Z x_15)) fun v26 => (
 cdO v26 (
 some (Sum.inr (2))
 ) (
 again22 (IE (x_15 + 1))
 )
 )
 ) (
 again22 (IE (x_15 + 1))
 )
 )
 ) (
 some (Sum.inl ())
 )
 )) 0) fun o29 => (
 match o29 with
 | .inl _ => (
 some (0)
 )
 | .inr (r0) => (
 some r0
 ))
 )
 )
 )
 )
 )
 )
 )
 )
 )
 )
 )
 )

def cx (n : Nat) (g : al) (level : Int) : Option (Int) :=
 bdO (fo n g) fun v1 => (
 cdO ((v1 : Int) != 0) (
 some (v1)
 ) (
 cdO (((level.tmod 2) : Int) == 0) (
 some (1)
 ) (
 cdO (decide (level < (-2097153))) (
 some (2)
 ) (
 cdO (decide (level > 2097153)) (
 some (2)
 ) (
 some (0)
 )
 )
 )
 )
 )

def eu (n : Nat) (n' : Int) : Option (Bool) :=
 cdO (decide (n' >= 2)) (
 some (decide (n' <= 64))
 ) (
 some (false)
 )

def gW (n : Nat) (n' : Int) : Option (Bool) :=
 cdO (decide (n' < (-1048576))) (
 some (true)
 ) (
 some (decide (n' > 1048576))
 )

def im (n : Nat) (z : Int) : Option (Bool) :=
 cdO ((z : Int) != (-2147483648)) (
 bdO (gW n z) fun v2 => (
 some (v2)
 )
 ) (
 some (false)
 )

def bU (n : Nat) (s : List Int) : Option (Int) :=
 bdO (aP (α := Int) (β := Sum (Unit) (Int)) n (fun again7 x_1 => (
 cdO (decide (x_1 < (s.length : Int))) (
 gdO (inR x_1 s.length) (
 bdO (im n (gt s x_1)) fun v10 => (
 cdO v10 (
 some (Sum.inr (x_1))
 ) (
 again7 (IE (x_1 + 1))
 )
 )
 )
 ) (
 some (Sum.inl ())
 )
 )) 0) fun o13 => (
 match o13 with
 | .inl _ => (
 some ((-1))
 )
 | .inr (r0) => (
 some r0
 ))

def bj (n : Nat) (s : List Int) : Option (Bool) :=
 bdO (bU n s) fun v1 => (
 some (decide (v1 >= 0))
 )

def jq (n : Nat) (g : al) : Option (Int) :=
 bdO (eu n g.Width) fun v1 => (
 cdO (!v1) (
 some (2)
 ) (
 bdO (eu n g.Height) fun v4 => (
 cdO (!v4) (
 some (2)
 ) (
 cdO (decide (g.Step < 2)) (
 some (2)
 ) (
 cdO (decide (g.Step > 65536)) (
 some (2)
 ) (
 cdO (((g.Step.tmod 2) : Int) != 0) (
 some (2)
 ) (
 bdO (gW n g.X0) fun v10 => (
 cdO v10 (
 some (2)
 ) (
 bdO (gW n g.Y0) fun v13 => (
 cdO v13 (
 some (2)
 ) (
 cdO (((g.Z.length : Int) : Int) != (IE (g.Width * g.Height))) (
 some (4)
 ) (
 bdO (bj n g.Z) fun v17 => (
 cdO v17 (
 some (2)
 ) (
 some (0)
 )
 )
 )
 )
 )
 )
 )
 )
 )
 )
 )
 )
 )
 )

def fG (n : Nat) (g : al) (level : Int) : Option (Int) :=
 bdO (jq n g) fun v1 => (
 cdO ((v1 : Int) != 0) (
 some (v1)
 ) (
 cdO (((level.tmod 2) : Int) == 0) (
 some (1)
 ) (
 cdO (decide (level < (-2097153))) (
 some (2)
 ) (
 cdO (decide (level > 2097153)) (
 some (2)
 ) (
 some (0)
 )
 )
 )
 )
 )

noncomputable def fz (n : Nat) (g : al) (level : Int) : Option (List ak × Int) :=
 bdO (fG n g level) fun v1 => (
 cdO ((v1 : Int) != 0) (
 some (([], v1))
 ) (
 bdO (gB n g level) fun v4 => (
 some ((v4, 0))
 )
 )
 )

def dT (n : Nat) (g : al) : Option (List (A3 Int)) :=
 bdO (aP (α := List (A3 Int) × Int) (β := List (A3 Int)) n (fun again76 (l_1, x_2) => (
 cdO (decide (x_2 < (IE (g.Height - 1)))) (
 bdO (aP (α := List (A3 Int) × Int) (β := List (A3 Int)) n (fun again113 (l_78, x_79) => (
 cdO (decide (x_79 < (IE (g.Width - 1)))) (
 bdO (some (IE ((IE (x_2 * g.Width)) + x_79))) fun w115 => (
 bdO (some [A3.mk w115 (IE (w115 + 1)) (IE ((IE (w115 + g.Width)) + 1)), A3.mk w115 (IE ((IE (w115 + g.Width)) + 1)) (IE (w115 + g.Width))]) fun w117 => (
 bdO (aP (α := List (A3 Int) × Int) (β := List (A3 Int)) n (fun again132 (l_119, x_120) => (
 cdO (decide (x_120 < 2)) (
 gdO (inR x_120 w117.length) (
 gdO (inR (gt w117 x_120).e0 g.Z.length) (
 cdO (((gt g.Z (gt w117 x_120).e0) : Int) != (-2147483648)) (
 gdO (inR (gt w117 x_120).e1 g.Z.length) (
 cdO (((gt g.Z (gt w117 x_120).e1) : Int) != (-2147483648)) (
 gdO (inR (gt w117 x_120).e2 g.Z.length) (
 cdO (((gt g.Z (gt w117 x_120).e2) : Int) != (-2147483648)) (
 gdO (decide ((l_119.length + 1) * 24 <= 140737488355328)) (
 gdO (decide (l_119.length + 1 <= 4611686018427387904)) (
 again132 (l_119 ++ [(gt w117 x_120)], IE (x_120 + 1))
 )
 )
 ) (
 again132 (l_119, IE (x_120 + 1))
 )
 )
 ) (
 again132 (l_119, IE (x_120 + 1))
 )
 )
 ) (
 again132 (l_119, IE (x_120 + 1))
 )
 )
 )
 ) (
 some (l_119)
 )
 )) (l_78, 0)) fun l_131 => (
 again113 (l_131, IE (x_79 + 1))
 )
 )
 )
 ) (
 some (l_78)
 )
 )) (l_1, 0)) fun l_112 => (
 again76 (l_112, IE (x_2 + 1))
 )
 ) (
 some (l_1)
 )
 )) ([], 0)) fun l_75 => (
 some (l_75)
 )

def fH (n : Nat) (a : Int) (b : Int) : Option (A2 Int) :=
 some (A2.mk (mn a b) (mx a b))

def bJ (n : Nat) (g : al) (k : Int) : Option (ar) :=
 gdO (!decide (g.Width = 0)) (
 bdO (bH n (IE (g.X0 + (IE ((k.tmod g.Width) * g.Step))))) fun v2 => (
 bdO (bH n (IE (g.Y0 + (IE ((IE (k.tdiv g.Width)) * g.Step))))) fun v4 => (
 some (ar.mk v2 v4)
 )
 )
 )

def bn (n : Nat) (x' : ai) (y : ai) : Option (ai) :=
 bdO (ck n x') fun v1 => (
 bdO (ck n y) fun v3 => (
 bdO (br n v1.Num v3.Num) fun v5 => (
 bdO (br n v1.Den v3.Den) fun v7 => (
 bdO (cX n v5 v7) fun v9 => (
 some (v9)
 )
 )
 )
 )
 )

def bt (n : Nat) (g : al) (c : an) : Option (ar × Int) :=
 bdO (dT n g) fun v1 => (
 bdO (aP (α := Bool × Int) (β := Bool) n (fun again29 (f_3, x_4) => (
 cdO (decide (x_4 < (v1.length : Int))) (
 gdO (inR x_4 v1.length) (
 bdO (aP (α := Bool × Int) (β := Bool) n (fun again42 (f_32, x_33) => (
 cdO (decide (x_33 < 3)) (
 cdO (decide (c.A < c.B)) (
 gdO (inR x_33 3) (
 gdO (inR ((IE (x_33 + 1)).tmod 3) 3) (
 bdO (fH n (A3.get (gt v1 x_4) x_33) (A3.get (gt v1 x_4) ((IE (x_33 + 1)).tmod 3))) fun v47 => (
 cdO (((v47.e0 : Int) == c.A) && (((v47.e1 : Int) == c.B) && true)) (
 again42 (true, IE (x_33 + 1))
 ) (
 again42 (f_32, IE (x_33 + 1))
 )
 )
 )
 )
 ) (
 again42 (f_32, IE (x_33 + 1))
 )
 ) (
 some (f_32)
 )
 )) (f_3, 0)) fun f_41 => (
 again29 (f_41, IE (x_4 + 1))
 )
 )
 ) (
 some (f_3)
 )
 )) (false, 0)) fun f_28 => (
 cdO (!f_28) (
 some ((ar.mk (ai.mk (ah.mk false []) (ah.mk false [])) (ai.mk (ah.mk false []) (ah.mk false [])), 6))
 ) (
 bdO (bI n c.At) fun v57 => (
 cdO (!v57) (
 some ((ar.mk (ai.mk (ah.mk false []) (ah.mk false [])) (ai.mk (ah.mk false []) (ah.mk false [])), 1))
 ) (
 bdO (di n c.At) fun v60 => (
 cdO (decide (v60 < 0)) (
 some ((ar.mk (ai.mk (ah.mk false []) (ah.mk false [])) (ai.mk (ah.mk false []) (ah.mk false [])), 2))
 ) (
 bdO (bH n 1) fun v63 => (
 bdO (bh n c.At v63) fun v65 => (
 cdO (decide (v65 > 0)) (
 some ((ar.mk (ai.mk (ah.mk false []) (ah.mk false [])) (ai.mk (ah.mk false []) (ah.mk false [])), 2))
 ) (
 bdO (bJ n g c.A) fun v68 => (
 bdO (bJ n g c.B) fun v70 => (
 bdO (bf n v70.X v68.X) fun v72 => (
 bdO (bn n c.At v72) fun v74 => (
 bdO (bE n v68.X v74) fun v76 => (
 bdO (bf n v70.Y v68.Y) fun v78 => (
 bdO (bn n c.At v78) fun v80 => (
 bdO (bE n v68.Y v80) fun v82 => (
 some ((ar.mk v76 v82, 0))
 )
 )
 )
 )
 )
 )
 )
 )
 )
 )
 )
 )
 )
 )
 )
 )
 )
 )

def cL (n : Nat) (g : al) (c : ak) : Option (List ar × Int) :=
 bdO (aP (α := List ar × Int) (β := Sum (List ar) (List ar × Int)) n (fun again11 (l_1, x_2) => (
 cdO (decide (x_2 < (c.Points.length : Int))) (
 gdO (inR x_2 c.Points.length) (
 bdO (bt n g (gt c.Points x_2)) fun v14 => (
 cdO ((v14.2 : Int) != 0) (
 some (Sum.inr (([], v14.2)))
 ) (
 gdO (decide ((l_1.length + 1) * 128 <= 140737488355328)) (
 gdO (decide (l_1.length + 1 <= 4611686018427387904)) (
 again11 (l_1 ++ [v14.1], IE (x_2 + 1))
 )
 )
 )
 )
 )
 ) (
 some (Sum.inl l_1)
 )
 )) ([], 0)) fun o19 => (
 match o19 with
 | .inl l_10 => (
 some ((l_10, 0))
 )
 | .inr (r0) => (
 some r0
 ))

def bZ (n : Nat) (a : ar) (b : ar) (c : ar) : Option (Int) :=
 bdO (bf n b.X a.X) fun v1 => (
 bdO (bf n c.Y a.Y) fun v3 => (
 bdO (bn n v1 v3) fun v5 => (
 bdO (bf n b.Y a.Y) fun v7 => (
 bdO (bf n c.X a.X) fun v9 => (
 bdO (bn n v7 v9) fun v11 => (
 bdO (bh n v5 v11) fun v13 => (
 some (v13)
 )
 )
 )
 )
 )
 )
 )

def cw (n : Nat) (a : ai) (b : ai) (p : ai) : Option (Bool) :=
 bdO (bh n a p) fun v1 => (
 bdO (bh n p b) fun v3 => (
 some (decide ((IE (v1 * v3)) >= 0))
 )
 )

def aQ (n : Nat) (a : ar) (b : ar) (p : ar) : Option (Bool) :=
 bdO (cw n a.X b.X p.X) fun v1 => (
 cdO v1 (
 bdO (cw n a.Y b.Y p.Y) fun v4 => (
 some (v4)
 )
 ) (
 some (false)
 )
 )

def dO (n : Nat) (a : ar) (b : ar) (c : ar) (d : ar) : Option (Bool) :=
 bdO (bZ n a b c) fun v1 => (
 bdO (bZ n a b d) fun v3 => (
 bdO (bZ n c d a) fun v5 => (
 bdO (bZ n c d b) fun v7 => (
 bdO (α := Sum (Unit) (Bool)) (
 cdO (decide ((IE (v1 * v3)) < 0)) (
 cdO (decide ((IE (v5 * v7)) < 0)) (
 some (Sum.inr (true))
 ) (
 some (Sum.inl ())
 )
 ) (
 some (Sum.inl ())
 )
 ) fun o11 => (
 match o11 with
 | .inl _ => (
 cdO ((v1 : Int) == 0) (
 bdO (aQ n a b c) fun v15 => (
 cdO v15 (
 some (true)
 ) (
 cdO ((v3 : Int) == 0) (
 bdO (aQ n a b d) fun v19 => (
 cdO v19 (
 some (true)
 ) (
 cdO ((v5 : Int) == 0) (
 bdO (aQ n c d a) fun v23 => (
 cdO v23 (
 some (true)
 ) (
 cdO ((v7 : Int) == 0) (
 bdO (aQ n c d b) fun v27 => (
 some (v27)
 )
 ) (
 some (false)
 )
 )
 )
 ) (
 cdO ((v7 : Int) == 0) (
 bdO (aQ n c d b) fun v30 => (
 some (v30)
 )
 ) (
 some (false)
 )
 )
 )
 )
 ) (
 cdO ((v5 : Int) == 0) (
 bdO (aQ n c d a) fun v33 => (
 cdO v33 (
 some (true)
 ) (
 cdO ((v7 : Int) == 0) (
 bdO (aQ n c d b) fun v37 => (
 some (v37)
 )
 ) (
 some (false)
 )
 )
 )
 ) (
 cdO ((v7 : Int) == 0) (
 bdO (aQ n c d b) fun v40 => (
 some (v40)
 )
 ) (
 some (false)
 )
 )
 )
 )
 )
 ) (
 cdO ((v3 : Int) == 0) (
 bdO (aQ n a b d) fun v43 => (
 cdO v43 (
 some (true)
 ) (
 cdO ((v5 : Int) == 0) (
 bdO (aQ n c d a) fun v47 => (
 cdO v47 (
 some (true)
 ) (
 cdO ((v7 : Int) == 0) (
 bdO (aQ n c d b) fun v51 => (
 some (v51)
 )
 ) (
 some (false)
 )
 )
 )
 ) (
 cdO ((v7 : Int) == 0) (
 bdO (aQ n c d b) fun v54 => (
 some (v54)
 )
 ) (
 some (false)
 )
 )
 )
 )
 ) (
 cdO ((v5 : Int) == 0) (
 bdO (aQ n c d a) fun v57 => (
 cdO v57 (
 some (true)
 ) (
 cdO ((v7 : Int) == 0) (
 bdO (aQ n c d b) fun v61 => (
 some (v61)
 )
 ) (
 some (false)
 )
 )
 )
 ) (
 cdO ((v7 : Int) == 0) (
 bdO (aQ n c d b) fun v64 => (
 some (v64)
 )
 ) (
 some (false)
 )
 )
 )
 )
 )
 | .inr (r0) => (
 some r0
 ))
 )
 )
 )
 )

noncomputable def df (n : Nat) (g : al) (levels : A2 Int) : Option (Bool) :=
 bdO (jn n) fun v1 => (
 cdO (!v1) (
 some (false)
 ) (
 bdO (kg n g 16) fun v4 => (
 cdO (!v4) (
 some (true)
 ) (
 bdO (cx n g levels.e0) fun v7 => (
 cdO ((v7 : Int) != 0) (
 some (true)
 ) (
 bdO (cx n g levels.e1) fun v10 => (
 cdO ((v10 : Int) != 0) (
 some (true)
 ) (
 bdO (fz n g levels.e0) fun v13 => (
 cdO ((v13.2 : Int) != 0) (
 some (false)
 ) (
 bdO (aP (α := List ae × Int) (β := Sum (List ae) (Bool)) n (fun again67 (a_16, x_17) => (
 cdO (decide (x_17 < (v13.1.length : Int))) (
 gdO (inR x_17 v13.1.length) (
 bdO (cL n g (gt v13.1 x_17)) fun v70 => (
 cdO ((v70.2 : Int) != 0) (
 some (Sum.inr (false))
 ) (
 bdO (aP (α := List ae × Int) (β := List ae) n (fun again94 (a_73, x_74) => (
 cdO (decide (x_74 < (v70.1.length : Int))) (
 gdO (!decide ((v70.1.length : Int) = 0)) (
 bdO (some ((IE (x_74 + 1)).tmod (v70.1.length : Int))) fun w97 => (
 cdO (decide (w97 > 0)) (
 gdO (inR x_74 (gt v13.1 x_17).Points.length) (
 gdO (inR w97 (gt v13.1 x_17).Points.length) (
 gdO (inR x_74 v70.1.length) (
 gdO (inR w97 v70.1.length) (
 gdO (decide ((a_73.length + 1) * 288 <= 140737488355328)) (
 gdO (decide (a_73.length + 1 <= 4611686018427387904)) (
 again94 (a_73 ++ [ae.mk (gt v70.1 x_74) (gt v70.1 w97) (A2.mk (A2.mk (gt (gt v13.1 x_17).Points x_74).A (gt (gt v13.1 x_17).Points x_74).B) (A2.mk (gt (gt v13.1 x_17).Points w97).A (gt (gt v13.1 x_17).Points w97).B))], IE (x_74 + 1))
 )
 )
 )
 )
 )
 )
 ) (
 cdO (gt v13.1 x_17).Closed (
 gdO (inR x_74 (gt v13.1 x_17).Points.length) (
 gdO (inR w97 (gt v13.1 x_17).Points.length) (
 gdO (inR x_74 v70.1.length) (
 gdO (inR w97 v70.1.length) (
 gdO (decide ((a_73.length + 1) * 288 <= 140737488355328)) (
 gdO (decide (a_73.length + 1 <= 4611686018427387904)) (
 again94 (a_73 ++ [ae.mk (gt v70.1 x_74) (gt v70.1 w97) (A2.mk (A2.mk (gt (gt v13.1 x_17).Points x_74).A (gt (gt v13.1 x_17).Points x_74).B) (A2.mk (gt (gt v13.1 x_17).Points w97).A (gt (gt v13.1 x_17).Points w97).B))], IE (x_74 + 1))
 )
 )
 )
 )
 )
 )
 ) (
 again94 (a_73, IE (x_74 + 1))
 )
 )
 )
 )
 ) (
 some (a_73)
 )
 )) (a_16, 0)) fun a_93 => (
 again67 (a_93, IE (x_17 + 1))
 )
 )
 )
 )
 ) (
 some (Sum.inl a_16)
 )
 )) ([], 0)) fun o116 => (
 match o116 with
 | .inl a_66 => (
 bdO (fz n g levels.e1) fun v119 => (
 cdO ((v119.2 : Int) != 0) (
 some (false)
 ) (
 bdO (aP (α := List ae × Int) (β := Sum (List ae) (Bool)) n (fun again173 (a_122, x_123) => (
 cdO (decide (x_123 < (v119.1.length : Int))) (
 gdO (inR x_123 v119.1.length) (
 bdO (cL n g (gt v119.1 x_123)) fun v176 => (
 cdO ((v176.2 : Int) != 0) (
 some (Sum.inr (false))
 ) (
 bdO (aP (α := List ae × Int) (β := List ae) n (fun again200 (a_179, x_180) => (
 cdO (decide (x_180 < (v176.1.length : Int))) (
 gdO (!decide ((v176.1.length : Int) = 0)) (
 bdO (some ((IE (x_180 + 1)).tmod (v176.1.length : Int))) fun w203 => (
 cdO (decide (w203 > 0)) (
 gdO (inR x_180 (gt v119.1 x_123).Points.length) (
 gdO (inR w203 (gt v119.1 x_123).Points.length) (
 gdO (inR x_180 v176.1.length) (
 gdO (inR w203 v176.1.length) (
 gdO (decide ((a_179.length + 1) * 288 <= 140737488355328)) (
 gdO (decide (a_179.length + 1 <= 4611686018427387904)) (
 again200 (a_179 ++ [ae.mk (gt v176.1 x_180) (gt v176.1 w203) (A2.mk (A2.mk (gt (gt v119.1 x_123).Points x_180).A (gt (gt v119.1 x_123).Points x_180).B) (A2.mk (gt (gt v119.1 x_123).Points w203).A (gt (gt v119.1 x_123).Points w203).B))], IE (x_180 + 1))
 )
 )
 )
 )
 )
 )
 ) (
 cdO (gt v119.1 x_123).Closed (
 gdO (inR x_180 (gt v119.1 x_123).Points.length) (
 gdO (inR w203 (gt v119.1 x_123).Points.length) (
 gdO (inR x_180 v176.1.length) (
 gdO (inR w203 v176.1.length) (
 gdO (decide ((a_179.length + 1) * 288 <= 140737488355328)) (
 gdO (decide (a_179.length + 1 <= 4611686018427387904)) (
 again200 (a_179 ++ [ae.mk (gt v176.1 x_180) (gt v176.1 w203) (A2.mk (A2.mk (gt (gt v119.1 x_123).Points x_180).A (gt (gt v119.1 x_123).Points x_180).B) (A2.mk (gt (gt v119.1 x_123).Points w203).A (gt (gt v119.1 x_123).Points w203).B))], IE (x_180 + 1))
 )
 )
 )
 )
 )
 )
 ) (
 again200 (a_179, IE (x_180 + 1))
 )
 )
 )
 )
 ) (
 some (a_179)
 )
 )) (a_122, 0)) fun a_199 => (
 again173 (a_199, IE (x_123 + 1))
 )
 )
 )
 )
 ) (
 some (Sum.inl a_122)
 )
 )) ([], 0)) fun o222 => (
 match o222 with
 | .inl a_172 => (
 bdO (aP (α := Int) (β := Sum (Unit) (Bool)) n (fun again257 x_225 => (
 cdO (decide (x_225 < (a_66.length : Int))) (
 gdO (inR x_225 a_66.length) (
 bdO (aP (α := Int) (β := Sum (Unit) (Bool)) n (fun again273 x_260 => (
 cdO (decide (x_260 < (a_172.length : Int))) (
 gdO (inR x_260 a_172.length) (
 cdO ((levels.e0 : Int) == levels.e1) (
 cdO (decide (x_225 >= x_260)) (
 again273 (IE (x_260 + 1))
 ) (
 cdO ((((gt a_66 x_225).f_ends.e0.e0 : Int) == (gt a_172 x_260).f_ends.e1.e0) && ((((gt a_66 x_225).f_ends.e0.e1 : Int) == (gt a_172 x_260).f_ends.e1.e1) && true)) (
 again273 (IE (x_260 + 1))
 ) (
 cdO ((((gt a_66 x_225).f_ends.e1.e0 : Int) == (gt a_172 x_260).f_ends.e0.e0) && ((((gt a_66 x_225).f_ends.e1.e1 : Int) == (gt a_172 x_260).f_ends.e0.e1) && true)) (
 again273 (IE (x_260 + 1))
 ) (
 bdO (dO n (gt a_66 x_225).f_from (gt a_66 x_225).f_to (gt a_172 x_260).f_from (gt a_172 x_260).f_to) fun v280 => (
 cdO v280 (
 some (Sum.inr (false))
 ) (
 again273 (IE (x_260 + 1))
 )
 )
 )
 )
 )
 ) (
 bdO (dO n (gt a_66 x_225).f_from (gt a_66 x_225).f_to (gt a_172 x_260).f_from (gt a_172 x_260).f_to) fun v283 => (
 cdO v283 (
 some (Sum.inr (false))
 ) (
 again273 (IE (x_260 + 1))
 )
 )
 )
 )
 ) (
 some (Sum.inl ())
 )
 )) 0) fun o286 => (
 match o286 with
 | .inl _ => (
 again257 (IE (x_225 + 1))
 )
 | .inr (r0) => (
 some (Sum.inr (r0))
 ))
 )
 ) (
 some (Sum.inl ())
 )
 )) 0) fun o289 => (
 match o289 with
 | .inl _ => (
 some (true)
 )
 | .inr (r0) => (
 some r0
 ))
 )
 | .inr (r0) => (
 some r0
 ))
 )
 )
 )
 | .inr (r0) => (
 some r0
 ))
 )
 )
 )
 )
 )
 )
 )
 )
 )
 )
abbrev iCu := iC .u32
abbrev wFu (n : Int) : Int := aa .u64 n
abbrev zN2 : List AV := [aB false, nS, aB false, nS]
abbrev zN3 : List AV := [aB false, nS, aB false, nS, aB false, nS]
abbrev zN4 : List AV := [aB false, nS, aB false, nS, aB false, nS, aB false, nS]
end Go.L