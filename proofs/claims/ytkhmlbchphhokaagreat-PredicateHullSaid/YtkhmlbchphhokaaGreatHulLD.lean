/- The program's functions as plain Lean programs, printed by a program. -/
import Derived.Test.YtkhmlbchphhokaaGreatSc11eplkegoe
import Derived.Test.YtkhmlbchphhokaaGreatScSjolcilbc
set_option linter.all false
set_option maxRecDepth 100000
set_option maxHeartbeats 4000000
namespace Go.L
open Go Go.Eng
structure api_Pix where
 X : Int
 Y : Int
 deriving Inhabited

def api_Pix.c (x : api_Pix) : List AV := [.at (.int .i64 x.X), .at (.int .i64 x.Y)]
theorem api_Pix.len : ∀ x, (api_Pix.c x).length = 2 := fun _ => rfl
theorem api_Pix.pure : ∀ x, idsOfL (api_Pix.c x) = [] := fun _ => rfl

structure api_Int where
 Negative : Bool
 Groups : List Int
 deriving Inhabited

structure api_Rat where
 Num : api_Int
 Den : api_Int
 deriving Inhabited

structure api_Place where
 X : api_Rat
 Y : api_Rat
 deriving Inhabited

structure api_Grid where
 X0 : Int
 Y0 : Int
 Step : Int
 Width : Int
 Height : Int
 Z : List Int
 deriving Inhabited

structure api_Banded where
 Grid : api_Grid
 Err : List Int
 deriving Inhabited

def api_Place.c (x : api_Place) : List AV := [.at (.bool x.X.Num.Negative), slT (iC .u32) x.X.Num.Groups, .at (.bool x.X.Den.Negative), slT (iC .u32) x.X.Den.Groups, .at (.bool x.Y.Num.Negative), slT (iC .u32) x.Y.Num.Groups, .at (.bool x.Y.Den.Negative), slT (iC .u32) x.Y.Den.Groups]
theorem api_Place.len : ∀ x, (api_Place.c x).length = 8 := fun _ => rfl
theorem api_Place.pure : ∀ x, idsOfL (api_Place.c x) = [] := fun _ => rfl

def api_Banded.c (x : api_Banded) : List AV := [.at (.int .i64 x.Grid.X0), .at (.int .i64 x.Grid.Y0), .at (.int .i64 x.Grid.Step), .at (.int .i64 x.Grid.Width), .at (.int .i64 x.Grid.Height), slT (iC .i64) x.Grid.Z, slT (iC .i64) x.Err]
theorem api_Banded.len : ∀ x, (api_Banded.c x).length = 7 := fun _ => rfl
theorem api_Banded.pure : ∀ x, idsOfL (api_Banded.c x) = [] := fun _ => rfl

def api_Grid.c (x : api_Grid) : List AV := [.at (.int .i64 x.X0), .at (.int .i64 x.Y0), .at (.int .i64 x.Step), .at (.int .i64 x.Width), .at (.int .i64 x.Height), slT (iC .i64) x.Z]
theorem api_Grid.len : ∀ x, (api_Grid.c x).length = 6 := fun _ => rfl
theorem api_Grid.pure : ∀ x, idsOfL (api_Grid.c x) = [] := fun _ => rfl

def api_Rat.c (x : api_Rat) : List AV := [.at (.bool x.Num.Negative), slT (iC .u32) x.Num.Groups, .at (.bool x.Den.Negative), slT (iC .u32) x.Den.Groups]
theorem api_Rat.len : ∀ x, (api_Rat.c x).length = 4 := fun _ => rfl
theorem api_Rat.pure : ∀ x, idsOfL (api_Rat.c x) = [] := fun _ => rfl

def api_Int.c (x : api_Int) : List AV := [.at (.bool x.Negative), slT (iC .u32) x.Groups]
theorem api_Int.len : ∀ x, (api_Int.c x).length = 2 := fun _ => rfl
theorem api_Int.pure : ∀ x, idsOfL (api_Int.c x) = [] := fun _ => rfl

def predicate_inRange_1 (n : Nat) (n' : Int) : Option (Bool) :=
 cdO (decide (n' < (-1048576))) (
  some (true)
 ) (
  some (decide (n' > 1048576))
 )

def slices_IndexFunc_int_int_of_predicate_inRange_1 (n : Nat) (s : List Int) : Option (Int) :=
 bdO (loopO (α := Int) (β := Sum (Unit) (Int)) n (fun again7 x_1 => (
  cdO (decide (x_1 < (s.length : Int))) (
   gdO (inR x_1 s.length) (
   bdO (predicate_inRange_1 n (gt s x_1)) fun v10 => (
   cdO v10 (
    some (Sum.inr (x_1))
   ) (
    again7 (wrapF .i64 (x_1 + 1))
   )
   )
   )
  ) (
   some (Sum.inl ())
  )
 )) 0) fun o13 => (
  match o13 with
  | .inl _ => (
   some ((-1))
  )
  | .inr (r0) => (
   some r0
  ))

def slices_ContainsFunc_int_int_of_predicate_inRange_1 (n : Nat) (s : List Int) : Option (Bool) :=
 bdO (slices_IndexFunc_int_int_of_predicate_inRange_1 n s) fun v1 => (
 some (decide (v1 ≥ 0))
 )

def predicate_inRange (n : Nat) (l : List Int) : Option (Bool) :=
 bdO (slices_ContainsFunc_int_int_of_predicate_inRange_1 n l) fun v1 => (
 some (!v1)
 )

def predicate_Check_1 (n : Nat) (p : api_Pix) : Option (Bool) :=
 bdO (predicate_inRange n [p.X, p.Y]) fun v1 => (
 some (!v1)
 )

def slices_IndexFunc_fiducial_api_Pix_fiducial_api_Pix_of_predicate_Check_1 (n : Nat) (s : List api_Pix) : Option (Int) :=
 bdO (loopO (α := Int) (β := Sum (Unit) (Int)) n (fun again7 x_1 => (
  cdO (decide (x_1 < (s.length : Int))) (
   gdO (inR x_1 s.length) (
   bdO (predicate_Check_1 n (gt s x_1)) fun v10 => (
   cdO v10 (
    some (Sum.inr (x_1))
   ) (
    again7 (wrapF .i64 (x_1 + 1))
   )
   )
   )
  ) (
   some (Sum.inl ())
  )
 )) 0) fun o13 => (
  match o13 with
  | .inl _ => (
   some ((-1))
  )
  | .inr (r0) => (
   some r0
  ))

def slices_ContainsFunc_fiducial_api_Pix_fiducial_api_Pix_of_predicate_Check_1 (n : Nat) (s : List api_Pix) : Option (Bool) :=
 bdO (slices_IndexFunc_fiducial_api_Pix_fiducial_api_Pix_of_predicate_Check_1 n s) fun v1 => (
 some (decide (v1 ≥ 0))
 )

def predicate_Check (n : Nat) (l : List api_Pix) : Option (Int) :=
 bdO (slices_ContainsFunc_fiducial_api_Pix_fiducial_api_Pix_of_predicate_Check_1 n l) fun v1 => (
 cdO v1 (
  some (2)
 ) (
  some (0)
 )
 )

def predicate_cross (n : Nat) (a : api_Pix) (b : api_Pix) (c : api_Pix) : Option (Int) :=
 some (wrapF .i64 ((wrapF .i64 ((wrapF .i64 (b.X - a.X)) * (wrapF .i64 (c.Y - a.Y)))) - (wrapF .i64 ((wrapF .i64 (b.Y - a.Y)) * (wrapF .i64 (c.X - a.X))))))

def predicate_dot (n : Nat) (a : api_Pix) (b : api_Pix) (c : api_Pix) : Option (Int) :=
 some (wrapF .i64 ((wrapF .i64 ((wrapF .i64 (b.X - a.X)) * (wrapF .i64 (c.X - a.X)))) + (wrapF .i64 ((wrapF .i64 (b.Y - a.Y)) * (wrapF .i64 (c.Y - a.Y))))))

def predicate_on (n : Nat) (a : api_Pix) (b : api_Pix) (c : api_Pix) : Option (Bool) :=
 bdO (predicate_cross n a b c) fun v1 => (
 cdO ((v1 : Int) == 0) (
  bdO (predicate_dot n c a b) fun v4 => (
  some (decide (v4 ≤ 0))
  )
 ) (
  some (false)
 )
 )

def slices_Index_fiducial_api_Pix_fiducial_api_Pix (n : Nat) (s : List api_Pix) (v : api_Pix) : Option (Int) :=
 bdO (loopO (α := Int) (β := Sum (Unit) (Int)) n (fun again5 x_1 => (
  cdO (decide (x_1 < (s.length : Int))) (
   gdO (inR x_1 s.length) (
   cdO (((v.X : Int) == (gt s x_1).X) && (((v.Y : Int) == (gt s x_1).Y) && true)) (
    some (Sum.inr (x_1))
   ) (
    again5 (wrapF .i64 (x_1 + 1))
   )
   )
  ) (
   some (Sum.inl ())
  )
 )) 0) fun o9 => (
  match o9 with
  | .inl _ => (
   some ((-1))
  )
  | .inr (r0) => (
   some r0
  ))

def slices_Contains_fiducial_api_Pix_fiducial_api_Pix (n : Nat) (s : List api_Pix) (v : api_Pix) : Option (Bool) :=
 bdO (slices_Index_fiducial_api_Pix_fiducial_api_Pix n s v) fun v1 => (
 some (decide (v1 ≥ 0))
 )

def predicate_Relate_1_w (n : Nat) (p : api_Pix) (lies : Bool) (p' : List api_Pix) : Option (List api_Pix) :=
 cdO lies (
  bdO (slices_Contains_fiducial_api_Pix_fiducial_api_Pix n p' p) fun v9 => (
  cdO (!v9) (
   gdO (decide ((p'.length + 1) * 16 ≤ 140737488355328)) (
   gdO (decide (p'.length + 1 ≤ 4611686018427387904)) (
   some (p' ++ [p])
   )
   )
  ) (
   some (p')
  )
  )
 ) (
  some (p')
 )

def cmp_isNaN_int (n : Nat) (x' : Int) : Option (Bool) :=
 some ((x' : Int) != x')

def cmp_Compare_int (n : Nat) (x' : Int) (y : Int) : Option (Int) :=
 bdO (cmp_isNaN_int n x') fun v1 => (
 bdO (cmp_isNaN_int n y) fun v3 => (
 cdO v1 (
  cdO v3 (
   some (0)
  ) (
   some ((-1))
  )
 ) (
  cdO v3 (
   some (1)
  ) (
   cdO (decide (x' < y)) (
    some ((-1))
   ) (
    cdO (decide (x' > y)) (
     some (1)
    ) (
     some (0)
    )
   )
  )
 )
 )
 )

def predicate_sign (n : Nat) (n' : Int) : Option (Int) :=
 bdO (cmp_Compare_int n n' 0) fun v1 => (
 some (v1)
 )

def predicate_Relate (n : Nat) (a : api_Pix) (b : api_Pix) (c : api_Pix) (d : api_Pix) : Option (Int × Int) :=
 bdO (predicate_Check n [a, b, c, d]) fun v1 => (
 cdO ((v1 : Int) != 0) (
  some ((0, v1))
 ) (
  bdO (predicate_on n c d a) fun v4 => (
  bdO (predicate_Relate_1_w n a v4 ([] : List api_Pix)) fun v6 => (
  bdO (predicate_on n c d b) fun v8 => (
  bdO (predicate_Relate_1_w n b v8 v6) fun v10 => (
  bdO (predicate_on n a b c) fun v12 => (
  bdO (predicate_Relate_1_w n c v12 v10) fun v14 => (
  bdO (predicate_on n a b d) fun v16 => (
  bdO (predicate_Relate_1_w n d v16 v14) fun v18 => (
  cdO (((v18.length : Int) : Int) == 0) (
   bdO (predicate_cross n a b c) fun v21 => (
   bdO (predicate_sign n v21) fun v23 => (
   bdO (predicate_cross n a b d) fun v25 => (
   bdO (predicate_sign n v25) fun v27 => (
   cdO (decide ((wrapF .i64 (v23 * v27)) < 0)) (
    bdO (predicate_cross n c d a) fun v30 => (
    bdO (predicate_sign n v30) fun v32 => (
    bdO (predicate_cross n c d b) fun v34 => (
    bdO (predicate_sign n v34) fun v36 => (
    cdO (decide ((wrapF .i64 (v32 * v36)) < 0)) (
     some ((2, 0))
    ) (
     some ((0, 0))
    )
    )
    )
    )
    )
   ) (
    some ((0, 0))
   )
   )
   )
   )
   )
  ) (
   cdO (((v18.length : Int) : Int) == 1) (
    some ((1, 0))
   ) (
    some ((3, 0))
   )
  )
  )
  )
  )
  )
  )
  )
  )
  )
 )
 )

def integer_split (n : Nat) (n' : Int) : Option (List Int) :=
 bdO (loopO (α := Int × List Int) (β := List Int) n (fun again7 (n_1, g_2) => (
  cdO (decide (n_1 > 0)) (
   gdO (decide ((g_2.length + 1) * 4 ≤ 140737488355328)) (
   gdO (decide (g_2.length + 1 ≤ 4611686018427387904)) (
   again7 (wrapF .u64 (n_1.tdiv 1000000000), g_2 ++ [wrapF .u32 (n_1.tmod 1000000000)])
   )
   )
  ) (
   some (g_2)
  )
 )) (n', [])) fun g_6 => (
  some (g_6)
 )

def integer_trim (n : Nat) (g : List Int) : Option (List Int) :=
 bdO (loopO (α := List Int) (β := List Int) n (fun again7 g_1 => (
  cdO (decide ((g_1.length : Int) > 0)) (
   gdO (inR (wrapF .i64 ((g_1.length : Int) - 1)) g_1.length) (
   cdO (((gt g_1 (wrapF .i64 ((g_1.length : Int) - 1))) : Int) == 0) (
    gdO (inS 0 (wrapF .i64 ((g_1.length : Int) - 1)) g_1.length) (
    again7 ((g_1.drop (0 : Int).toNat).take ((wrapF .i64 ((g_1.length : Int) - 1)).toNat - (0 : Int).toNat))
    )
   ) (
    some (g_1)
   )
   )
  ) (
   some (g_1)
  )
 )) g) fun g_6 => (
  some (g_6)
 )

def integer_made (n : Nat) (negative : Bool) (g : List Int) : Option (api_Int) :=
 bdO (integer_trim n g) fun v1 => (
 cdO (((v1.length : Int) : Int) == 0) (
  some (api_Int.mk false [])
 ) (
  some (api_Int.mk negative v1)
 )
 )

def integer_Of (n : Nat) (n' : Int) : Option (api_Int) :=
 cdO (decide (n' < 0)) (
  bdO (integer_split n (wrapF .u64 (0 - (wrapF .u64 n')))) fun v2 => (
  bdO (integer_made n true v2) fun v4 => (
  some (v4)
  )
  )
 ) (
  bdO (integer_split n (wrapF .u64 n')) fun v6 => (
  bdO (integer_made n false v6) fun v8 => (
  some (v8)
  )
  )
 )

def fraction_Whole (n : Nat) (n' : Int) : Option (api_Rat) :=
 bdO (integer_Of n n') fun v1 => (
 bdO (integer_Of n 1) fun v3 => (
 some (api_Rat.mk v1 v3)
 )
 )

def integer_Valid_1 (n : Nat) (g : Int) : Option (Bool) :=
 some (decide (g ≥ 1000000000))

def slices_IndexFunc_uint32_uint32_of_integer_Valid_1 (n : Nat) (s : List Int) : Option (Int) :=
 bdO (loopO (α := Int) (β := Sum (Unit) (Int)) n (fun again7 x_1 => (
  cdO (decide (x_1 < (s.length : Int))) (
   gdO (inR x_1 s.length) (
   bdO (integer_Valid_1 n (gt s x_1)) fun v10 => (
   cdO v10 (
    some (Sum.inr (x_1))
   ) (
    again7 (wrapF .i64 (x_1 + 1))
   )
   )
   )
  ) (
   some (Sum.inl ())
  )
 )) 0) fun o13 => (
  match o13 with
  | .inl _ => (
   some ((-1))
  )
  | .inr (r0) => (
   some r0
  ))

def slices_ContainsFunc_uint32_uint32_of_integer_Valid_1 (n : Nat) (s : List Int) : Option (Bool) :=
 bdO (slices_IndexFunc_uint32_uint32_of_integer_Valid_1 n s) fun v1 => (
 some (decide (v1 ≥ 0))
 )

def integer_Valid (n : Nat) (x' : api_Int) : Option (Bool) :=
 cdO (((x'.Groups.length : Int) : Int) == 0) (
  some (!x'.Negative)
 ) (
  gdO (inR (wrapF .i64 ((x'.Groups.length : Int) - 1)) x'.Groups.length) (
  cdO (((gt x'.Groups (wrapF .i64 ((x'.Groups.length : Int) - 1))) : Int) != 0) (
   bdO (slices_ContainsFunc_uint32_uint32_of_integer_Valid_1 n x'.Groups) fun v4 => (
   some (!v4)
   )
  ) (
   some (false)
  )
  )
 )

def fraction_counted (n : Nat) (n' : api_Int) : Option (api_Int) :=
 bdO (integer_Valid n n') fun v1 => (
 cdO v1 (
  some (n')
 ) (
  bdO (integer_Of n 0) fun v4 => (
  some (v4)
  )
 )
 )

def integer_groups (n : Nat) (x' : api_Int) : Option (List Int) :=
 bdO (integer_Valid n x') fun v1 => (
 cdO (!v1) (
  some ([])
 ) (
  some (x'.Groups)
 )
 )

def integer_Sign (n : Nat) (x' : api_Int) : Option (Int) :=
 bdO (integer_groups n x') fun v1 => (
 cdO (((v1.length : Int) : Int) == 0) (
  some (0)
 ) (
  cdO x'.Negative (
   some ((-1))
  ) (
   some (1)
  )
 )
 )

def slices_Clone_uint32_uint32 (n : Nat) (s : List Int) : Option (List Int) :=
 gdO (decide ((0 + s.length) * 4 ≤ 140737488355328)) (
 gdO (decide (0 + s.length ≤ 4611686018427387904)) (
 some (s)
 )
 )

def integer_Neg (n : Nat) (x' : api_Int) : Option (api_Int) :=
 bdO (integer_groups n x') fun v1 => (
 bdO (slices_Clone_uint32_uint32 n v1) fun v3 => (
 bdO (integer_made n (!x'.Negative) v3) fun v5 => (
 some (v5)
 )
 )
 )




def integer_times (n : Nat) (a : List Int) (b : List Int) : Option (List Int) :=
 gdO (decide (0 ≤ wrapF .i64 ((a.length : Int) + (b.length : Int)))) (
 gdO (decide ((4 : Int) * (wrapF .i64 ((a.length : Int) + (b.length : Int))) ≤ 281474976710656)) (
 gdO (decide (wrapF .i64 ((a.length : Int) + (b.length : Int)) ≤ 9223372036854775807)) (
 bdO (loopO (α := List Int × Int) (β := List Int) n (fun again25 (out_4, x_5) => (
  cdO (decide (x_5 < (a.length : Int))) (
   gdO (inR x_5 a.length) (
   bdO (loopO (α := List Int × Int × Int) (β := List Int × Int) n (fun again36 (out_28, carry_29, x_30) => (
    cdO (decide (x_30 < (b.length : Int))) (
     gdO (inR x_30 b.length) (
     gdO (inR (wrapF .i64 (x_5 + x_30)) out_28.length) (
     again36 (out_28.set (wrapF .i64 (x_5 + x_30)).toNat (wrapF .u32 ((wrapF .u64 ((wrapF .u64 ((wrapF .u64 (gt out_28 (wrapF .i64 (x_5 + x_30)))) + (wrapF .u64 ((wrapF .u64 (gt a x_5)) * (wrapF .u64 (gt b x_30)))))) + carry_29)).tmod 1000000000)), wrapF .u64 ((wrapF .u64 ((wrapF .u64 ((wrapF .u64 (gt out_28 (wrapF .i64 (x_5 + x_30)))) + (wrapF .u64 ((wrapF .u64 (gt a x_5)) * (wrapF .u64 (gt b x_30)))))) + carry_29)).tdiv 1000000000), wrapF .i64 (x_30 + 1))
     )
     )
    ) (
     some ((out_28, carry_29))
    )
   )) (out_4, 0, 0)) fun o40 => (
    match o40 with
    | (out_34, carry_35) => (
     gdO (inR (wrapF .i64 (x_5 + (b.length : Int))) out_34.length) (
     again25 (out_34.set (wrapF .i64 (x_5 + (b.length : Int))).toNat (wrapF .u32 carry_35), wrapF .i64 (x_5 + 1))
     )
    ))
   )
  ) (
   some (out_4)
  )
 )) (List.replicate (wrapF .i64 ((a.length : Int) + (b.length : Int))).toNat ((0 : Int) : Int), 0)) fun out_24 => (
  bdO (integer_trim n out_24) fun v47 => (
  some (v47)
  )
 )
 )
 )
 )

def integer_trim_w (n : Nat) (g : List Int) : Option (List Int) :=
 bdO (loopO (α := List Int) (β := List Int) n (fun again22 g_16 => (
  cdO (decide ((g_16.length : Int) > 0)) (
   gdO (inR (wrapF .i64 ((g_16.length : Int) - 1)) g_16.length) (
   cdO (((gt g_16 (wrapF .i64 ((g_16.length : Int) - 1))) : Int) == 0) (
    gdO (inS 0 (wrapF .i64 ((g_16.length : Int) - 1)) g_16.length) (
    again22 (g_16.take (wrapF .i64 ((g_16.length : Int) - 1)).toNat)
    )
   ) (
    some (g_16)
   )
   )
  ) (
   some (g_16)
  )
 )) g) fun g_21 => (
  some (g_21)
 )

def integer_times_w (n : Nat) (a : List Int) (b : List Int) : Option (List Int) :=
 gdO (decide (0 ≤ wrapF .i64 ((a.length : Int) + (b.length : Int)))) (
 gdO (decide ((4 : Int) * (wrapF .i64 ((a.length : Int) + (b.length : Int))) ≤ 281474976710656)) (
 gdO (decide (wrapF .i64 ((a.length : Int) + (b.length : Int)) ≤ 9223372036854775807)) (
 bdO (loopO (α := List Int × Int) (β := List Int) n (fun again74 (out_53, x_54) => (
  cdO (decide (x_54 < (a.length : Int))) (
   gdO (inR x_54 a.length) (
   bdO (loopO (α := List Int × Int × Int) (β := List Int × Int) n (fun again85 (out_77, carry_78, x_79) => (
    cdO (decide (x_79 < (b.length : Int))) (
     gdO (inR x_79 b.length) (
     gdO (inR (wrapF .i64 (x_54 + x_79)) out_77.length) (
     again85 (out_77.set (wrapF .i64 (x_54 + x_79)).toNat (wrapF .u32 ((wrapF .u64 ((wrapF .u64 ((wrapF .u64 (gt out_77 (wrapF .i64 (x_54 + x_79)))) + (wrapF .u64 ((wrapF .u64 (gt a x_54)) * (wrapF .u64 (gt b x_79)))))) + carry_78)).tmod 1000000000)), wrapF .u64 ((wrapF .u64 ((wrapF .u64 ((wrapF .u64 (gt out_77 (wrapF .i64 (x_54 + x_79)))) + (wrapF .u64 ((wrapF .u64 (gt a x_54)) * (wrapF .u64 (gt b x_79)))))) + carry_78)).tdiv 1000000000), wrapF .i64 (x_79 + 1))
     )
     )
    ) (
     some ((out_77, carry_78))
    )
   )) (out_53, 0, 0)) fun o89 => (
    match o89 with
    | (out_83, carry_84) => (
     gdO (inR (wrapF .i64 (x_54 + (b.length : Int))) out_83.length) (
     again74 (out_83.set (wrapF .i64 (x_54 + (b.length : Int))).toNat (wrapF .u32 carry_84), wrapF .i64 (x_54 + 1))
     )
    ))
   )
  ) (
   some (out_53)
  )
 )) (List.replicate (wrapF .i64 ((a.length : Int) + (b.length : Int))).toNat ((0 : Int) : Int), 0)) fun out_73 => (
  bdO (integer_trim_w n out_73) fun v96 => (
  some (v96)
  )
 )
 )
 )
 )

def integer_at (n : Nat) (g : List Int) (i : Int) : Option (Int) :=
 cdO (decide (i < (g.length : Int))) (
  gdO (inR i g.length) (
  some ((gt g i))
  )
 ) (
  some (0)
 )

def integer_long (n : Nat) (a : List Int) (b : List Int) : Option (List Int × List Int) :=
 gdO (inR (wrapF .i64 ((b.length : Int) - 1)) b.length) (
 gdO (!decide (wrapF .u64 ((wrapF .u64 (gt b (wrapF .i64 ((b.length : Int) - 1)))) + 1) = 0)) (
 bdO (integer_times_w n a [wrapF .u32 (wrapF .u64 ((1000000000 : Int).tdiv (wrapF .u64 ((wrapF .u64 (gt b (wrapF .i64 ((b.length : Int) - 1)))) + 1))))]) fun v3 => (
 bdO (integer_times_w n b [wrapF .u32 (wrapF .u64 ((1000000000 : Int).tdiv (wrapF .u64 ((wrapF .u64 (gt b (wrapF .i64 ((b.length : Int) - 1)))) + 1))))]) fun v5 => (
 gdO (decide ((v3.length + 1) * 4 ≤ 140737488355328)) (
 gdO (decide (v3.length + 1 ≤ 4611686018427387904)) (
 bdO (α := List Int) (
  cdO (decide (((v3 ++ [(0 : Int)]).length : Int) ≤ (a.length : Int))) (
   gdO (decide (((v3 ++ [(0 : Int)]).length + 1) * 4 ≤ 140737488355328)) (
   gdO (decide ((v3 ++ [(0 : Int)]).length + 1 ≤ 4611686018427387904)) (
   some ((v3 ++ [(0 : Int)]) ++ [(0 : Int)])
   )
   )
  ) (
   some (v3 ++ [(0 : Int)])
  )
 ) fun u_9 => (
  gdO (decide (0 ≤ wrapF .i64 ((u_9.length : Int) - (v5.length : Int)))) (
  gdO (decide ((4 : Int) * (wrapF .i64 ((u_9.length : Int) - (v5.length : Int))) ≤ 281474976710656)) (
  gdO (decide (wrapF .i64 ((u_9.length : Int) - (v5.length : Int)) ≤ 9223372036854775807)) (
  bdO (loopO (α := List Int × List Int × Int) (β := List Int × List Int) n (fun again129 (q_19, u_20, j_21) => (
   cdO (decide (j_21 ≥ 0)) (
    bdO (integer_at n u_20 (wrapF .i64 (j_21 + (v5.length : Int)))) fun v132 => (
    gdO (inR (wrapF .i64 ((wrapF .i64 (j_21 + (v5.length : Int))) - 1)) u_20.length) (
    gdO (inR (wrapF .i64 ((v5.length : Int) - 1)) v5.length) (
    gdO (!decide (wrapF .u64 (gt v5 (wrapF .i64 ((v5.length : Int) - 1))) = 0)) (
    bdO (loopO (α := Int × Int) (β := Int) n (fun again165 (guess_156, rest_157) => (
     cdO (decide (guess_156 ≥ 1000000000)) (
      cdO (decide ((wrapF .u64 (rest_157 + (wrapF .u64 (gt v5 (wrapF .i64 ((v5.length : Int) - 1)))))) ≥ 1000000000)) (
       some (wrapF .u64 (guess_156 - 1))
      ) (
       again165 (wrapF .u64 (guess_156 - 1), wrapF .u64 (rest_157 + (wrapF .u64 (gt v5 (wrapF .i64 ((v5.length : Int) - 1))))))
      )
     ) (
      gdO (inR (wrapF .i64 ((v5.length : Int) - 2)) v5.length) (
      gdO (inR (wrapF .i64 ((wrapF .i64 (j_21 + (v5.length : Int))) - 2)) u_20.length) (
      cdO (decide ((wrapF .u64 (guess_156 * (wrapF .u64 (gt v5 (wrapF .i64 ((v5.length : Int) - 2)))))) > (wrapF .u64 ((wrapF .u64 (rest_157 * 1000000000)) + (wrapF .u64 (gt u_20 (wrapF .i64 ((wrapF .i64 (j_21 + (v5.length : Int))) - 2)))))))) (
       cdO (decide ((wrapF .u64 (rest_157 + (wrapF .u64 (gt v5 (wrapF .i64 ((v5.length : Int) - 1)))))) ≥ 1000000000)) (
        some (wrapF .u64 (guess_156 - 1))
       ) (
        again165 (wrapF .u64 (guess_156 - 1), wrapF .u64 (rest_157 + (wrapF .u64 (gt v5 (wrapF .i64 ((v5.length : Int) - 1))))))
       )
      ) (
       some (guess_156)
      )
      )
      )
     )
    )) (wrapF .u64 ((wrapF .u64 ((wrapF .u64 ((wrapF .u64 v132) * 1000000000)) + (wrapF .u64 (gt u_20 (wrapF .i64 ((wrapF .i64 (j_21 + (v5.length : Int))) - 1)))))).tdiv (wrapF .u64 (gt v5 (wrapF .i64 ((v5.length : Int) - 1))))), (wrapF .u64 ((wrapF .u64 ((wrapF .u64 v132) * 1000000000)) + (wrapF .u64 (gt u_20 (wrapF .i64 ((wrapF .i64 (j_21 + (v5.length : Int))) - 1)))))).tmod (wrapF .u64 (gt v5 (wrapF .i64 ((v5.length : Int) - 1)))))) fun guess_164 => (
     bdO (loopO (α := List Int × Int × Int × Int) (β := List Int × Int × Int) n (fun again205 (u_194, borrow_195, carry_196, x_197) => (
      cdO (decide (x_197 < (v5.length : Int))) (
       gdO (inR x_197 v5.length) (
       gdO (inR (wrapF .i64 (x_197 + j_21)) u_194.length) (
       cdO (decide ((wrapF .i64 ((wrapF .i64 ((wrapF .i64 (gt u_194 (wrapF .i64 (x_197 + j_21)))) - borrow_195)) - (wrapF .i64 ((wrapF .u64 ((wrapF .u64 (guess_164 * (wrapF .u64 (gt v5 x_197)))) + carry_196)).tmod 1000000000)))) < 0)) (
        again205 (u_194.set (wrapF .i64 (x_197 + j_21)).toNat (wrapF .u32 (wrapF .i64 ((wrapF .i64 ((wrapF .i64 ((wrapF .i64 (gt u_194 (wrapF .i64 (x_197 + j_21)))) - borrow_195)) - (wrapF .i64 ((wrapF .u64 ((wrapF .u64 (guess_164 * (wrapF .u64 (gt v5 x_197)))) + carry_196)).tmod 1000000000)))) + 1000000000))), 1, wrapF .u64 ((wrapF .u64 ((wrapF .u64 (guess_164 * (wrapF .u64 (gt v5 x_197)))) + carry_196)).tdiv 1000000000), wrapF .i64 (x_197 + 1))
       ) (
        again205 (u_194.set (wrapF .i64 (x_197 + j_21)).toNat (wrapF .u32 (wrapF .i64 ((wrapF .i64 ((wrapF .i64 (gt u_194 (wrapF .i64 (x_197 + j_21)))) - borrow_195)) - (wrapF .i64 ((wrapF .u64 ((wrapF .u64 (guess_164 * (wrapF .u64 (gt v5 x_197)))) + carry_196)).tmod 1000000000))))), 0, wrapF .u64 ((wrapF .u64 ((wrapF .u64 (guess_164 * (wrapF .u64 (gt v5 x_197)))) + carry_196)).tdiv 1000000000), wrapF .i64 (x_197 + 1))
       )
       )
       )
      ) (
       some ((u_194, borrow_195, carry_196))
      )
     )) (u_20, 0, 0, 0)) fun o210 => (
      match o210 with
      | (u_202, borrow_203, carry_204) => (
       gdO (inR (wrapF .i64 (j_21 + (v5.length : Int))) u_202.length) (
       cdO (decide ((wrapF .i64 ((wrapF .i64 ((wrapF .i64 (gt u_202 (wrapF .i64 (j_21 + (v5.length : Int))))) - borrow_203)) - (wrapF .i64 carry_204))) < 0)) (
        bdO (loopO (α := List Int × Int × Int) (β := List Int × Int) n (fun again224 (u_215, c_216, x_217) => (
         cdO (decide (x_217 < (v5.length : Int))) (
          gdO (inR (wrapF .i64 (x_217 + j_21)) u_215.length) (
          gdO (inR x_217 v5.length) (
          cdO (decide ((wrapF .u32 ((wrapF .u32 ((gt u_215 (wrapF .i64 (x_217 + j_21))) + (gt v5 x_217))) + c_216)) ≥ 1000000000)) (
           again224 (u_215.set (wrapF .i64 (x_217 + j_21)).toNat (wrapF .u32 ((wrapF .u32 ((wrapF .u32 ((gt u_215 (wrapF .i64 (x_217 + j_21))) + (gt v5 x_217))) + c_216)) - 1000000000)), 1, wrapF .i64 (x_217 + 1))
          ) (
           again224 (u_215.set (wrapF .i64 (x_217 + j_21)).toNat (wrapF .u32 ((wrapF .u32 ((gt u_215 (wrapF .i64 (x_217 + j_21))) + (gt v5 x_217))) + c_216)), 0, wrapF .i64 (x_217 + 1))
          )
          )
          )
         ) (
          some ((u_215, c_216))
         )
        )) (u_202.set (wrapF .i64 (j_21 + (v5.length : Int))).toNat (wrapF .u32 (wrapF .i64 ((wrapF .i64 ((wrapF .i64 ((wrapF .i64 (gt u_202 (wrapF .i64 (j_21 + (v5.length : Int))))) - borrow_203)) - (wrapF .i64 carry_204))) + 1000000000))), 0, 0)) fun o229 => (
         match o229 with
         | (u_222, c_223) => (
          gdO (inR (wrapF .i64 (j_21 + (v5.length : Int))) u_222.length) (
          gdO (inR j_21 q_19.length) (
          again129 (q_19.set j_21.toNat (wrapF .u32 (wrapF .u64 (guess_164 - 1))), u_222.set (wrapF .i64 (j_21 + (v5.length : Int))).toNat ((wrapF .u32 ((gt u_222 (wrapF .i64 (j_21 + (v5.length : Int)))) + c_223)).tmod 1000000000), wrapF .i64 (j_21 - 1))
          )
          )
         ))
       ) (
        gdO (inR j_21 q_19.length) (
        again129 (q_19.set j_21.toNat (wrapF .u32 guess_164), u_202.set (wrapF .i64 (j_21 + (v5.length : Int))).toNat (wrapF .u32 (wrapF .i64 ((wrapF .i64 ((wrapF .i64 (gt u_202 (wrapF .i64 (j_21 + (v5.length : Int))))) - borrow_203)) - (wrapF .i64 carry_204)))), wrapF .i64 (j_21 - 1))
        )
       )
       )
      ))
    )
    )
    )
    )
    )
   ) (
    some ((q_19, u_20))
   )
  )) (List.replicate (wrapF .i64 ((u_9.length : Int) - (v5.length : Int))).toNat ((0 : Int) : Int), u_9, wrapF .i64 ((wrapF .i64 ((u_9.length : Int) - (v5.length : Int))) - 1))) fun o235 => (
   match o235 with
   | (q_127, u_128) => (
    gdO (inS 0 (v5.length : Int) u_128.length) (
    bdO (integer_trim n (u_128.take (v5.length : Int).toNat)) fun v239 => (
    bdO (integer_short n v239 (wrapF .u32 (wrapF .u64 ((1000000000 : Int).tdiv (wrapF .u64 ((wrapF .u64 (gt b (wrapF .i64 ((b.length : Int) - 1)))) + 1)))))) fun v241 => (
    bdO (integer_trim n q_127) fun v243 => (
    some ((v243, v241.1))
    )
    )
    )
    )
   ))
  )
  )
  )
 )
 )
 )
 )
 )
 )
 )

def integer_over (n : Nat) (a : List Int) (b : List Int) : Option (List Int × List Int) :=
 bdO (integer_compare n a b) fun v1 => (
 cdO (decide (v1 < 0)) (
  some (([], a))
 ) (
  bdO (integer_word n a) fun v4 => (
  bdO (integer_word n b) fun v6 => (
  cdO v4.2 (
   cdO v6.2 (
    gdO (!decide (v6.1 = 0)) (
    bdO (integer_split n (wrapF .u64 (v4.1.tdiv v6.1))) fun v11 => (
    bdO (integer_split n (v4.1.tmod v6.1)) fun v13 => (
    some ((v11, v13))
    )
    )
    )
   ) (
    cdO (((b.length : Int) : Int) == 1) (
     gdO (inR 0 b.length) (
     bdO (integer_short n a (gt b 0)) fun v17 => (
     bdO (integer_split n (wrapF .u64 v17.2)) fun v19 => (
     some ((v17.1, v19))
     )
     )
     )
    ) (
     bdO (integer_long n a b) fun v21 => (
     some ((v21.1, v21.2))
     )
    )
   )
  ) (
   cdO (((b.length : Int) : Int) == 1) (
    gdO (inR 0 b.length) (
    bdO (integer_short n a (gt b 0)) fun v25 => (
    bdO (integer_split n (wrapF .u64 v25.2)) fun v27 => (
    some ((v25.1, v27))
    )
    )
    )
   ) (
    bdO (integer_long n a b) fun v29 => (
    some ((v29.1, v29.2))
    )
   )
  )
  )
  )
 )
 )

def integer_Gcd (n : Nat) (x' : api_Int) (y : api_Int) : Option (api_Int) :=
 bdO (integer_groups n x') fun v1 => (
 bdO (integer_groups n y) fun v3 => (
 bdO (loopO (α := List Int × List Int) (β := Sum (List Int) (api_Int)) n (fun again34 (a_5, b_6) => (
  cdO (decide ((b_6.length : Int) > 0)) (
   bdO (integer_word n a_5) fun v36 => (
   bdO (integer_word n b_6) fun v38 => (
   cdO v36.2 (
    cdO v38.2 (
     bdO (loopO (α := Int × Int) (β := Int) n (fun again47 (m_42, n_43) => (
      cdO (decide (n_43 > 0)) (
       gdO (!decide (n_43 = 0)) (
       again47 (n_43, m_42.tmod n_43)
       )
      ) (
       some (m_42)
      )
     )) (v36.1, v38.1)) fun m_46 => (
      bdO (integer_split n m_46) fun v53 => (
      bdO (integer_made n false v53) fun v55 => (
      some (Sum.inr (v55))
      )
      )
     )
    ) (
     bdO (integer_over n a_5 b_6) fun v57 => (
     again34 (b_6, v57.2)
     )
    )
   ) (
    bdO (integer_over n a_5 b_6) fun v59 => (
    again34 (b_6, v59.2)
    )
   )
   )
   )
  ) (
   some (Sum.inl a_5)
  )
 )) (v1, v3)) fun o61 => (
  match o61 with
  | .inl a_33 => (
   bdO (slices_Clone_uint32_uint32 n a_33) fun v64 => (
   bdO (integer_made n false v64) fun v66 => (
   some (v66)
   )
   )
  )
  | .inr (r0) => (
   some r0
  ))
 )
 )

def integer_plus (n : Nat) (a : List Int) (b : List Int) : Option (List Int) :=
 gdO (decide (0 ≤ wrapF .i64 ((mx (a.length : Int) (b.length : Int)) + 1))) (
 gdO (decide ((4 : Int) * (wrapF .i64 ((mx (a.length : Int) (b.length : Int)) + 1)) ≤ 281474976710656)) (
 gdO (decide (wrapF .i64 ((mx (a.length : Int) (b.length : Int)) + 1) ≤ 9223372036854775807)) (
 bdO (loopO (α := List Int × Int × Int) (β := List Int) n (fun again16 (out_4, carry_5, x_6) => (
  cdO (decide (x_6 < ((List.replicate (wrapF .i64 ((mx (a.length : Int) (b.length : Int)) + 1)).toNat ((0 : Int) : Int)).length : Int))) (
   bdO (integer_at n a x_6) fun v18 => (
   bdO (integer_at n b x_6) fun v20 => (
   cdO (decide ((wrapF .u32 ((wrapF .u32 (v18 + v20)) + carry_5)) ≥ 1000000000)) (
    gdO (inR x_6 out_4.length) (
    again16 (out_4.set x_6.toNat (wrapF .u32 ((wrapF .u32 ((wrapF .u32 (v18 + v20)) + carry_5)) - 1000000000)), 1, wrapF .i64 (x_6 + 1))
    )
   ) (
    gdO (inR x_6 out_4.length) (
    again16 (out_4.set x_6.toNat (wrapF .u32 ((wrapF .u32 (v18 + v20)) + carry_5)), 0, wrapF .i64 (x_6 + 1))
    )
   )
   )
   )
  ) (
   some (out_4)
  )
 )) (List.replicate (wrapF .i64 ((mx (a.length : Int) (b.length : Int)) + 1)).toNat ((0 : Int) : Int), 0, 0)) fun out_15 => (
  bdO (integer_trim n out_15) fun v28 => (
  some (v28)
  )
 )
 )
 )
 )

def integer_minus (n : Nat) (a : List Int) (b : List Int) : Option (List Int) :=
 gdO (decide (0 ≤ (a.length : Int))) (
 gdO (decide ((4 : Int) * (a.length : Int) ≤ 281474976710656)) (
 gdO (decide ((a.length : Int) ≤ 9223372036854775807)) (
 bdO (loopO (α := List Int × Int × Int) (β := List Int) n (fun again15 (out_4, borrow_5, x_6) => (
  cdO (decide (x_6 < ((List.replicate (a.length : Int).toNat ((0 : Int) : Int)).length : Int))) (
   bdO (integer_at n b x_6) fun v17 => (
   gdO (inR x_6 a.length) (
   cdO (decide ((gt a x_6) < (wrapF .u32 (v17 + borrow_5)))) (
    gdO (inR x_6 out_4.length) (
    again15 (out_4.set x_6.toNat (wrapF .u32 ((wrapF .u32 ((gt a x_6) + 1000000000)) - (wrapF .u32 (v17 + borrow_5)))), 1, wrapF .i64 (x_6 + 1))
    )
   ) (
    gdO (inR x_6 out_4.length) (
    again15 (out_4.set x_6.toNat (wrapF .u32 ((gt a x_6) - (wrapF .u32 (v17 + borrow_5)))), 0, wrapF .i64 (x_6 + 1))
    )
   )
   )
   )
  ) (
   some (out_4)
  )
 )) (List.replicate (a.length : Int).toNat ((0 : Int) : Int), 0, 0)) fun out_14 => (
  bdO (integer_trim n out_14) fun v26 => (
  some (v26)
  )
 )
 )
 )
 )

def integer_Divide (n : Nat) (x' : api_Int) (y : api_Int) : Option (api_Int × api_Int × Int) :=
 bdO (integer_groups n x') fun v1 => (
 bdO (integer_groups n y) fun v3 => (
 cdO (((v3.length : Int) : Int) == 0) (
  some ((api_Int.mk false [], api_Int.mk false [], 14))
 ) (
  bdO (integer_over n v1 v3) fun v6 => (
  bdO (slices_Clone_uint32_uint32 n v6.2) fun v8 => (
  cdO (decide ((v8.length : Int) > 0)) (
   cdO (x'.Negative != y.Negative) (
    bdO (integer_plus n v6.1 [(1 : Int)]) fun v12 => (
    bdO (integer_minus n v3 v8) fun v14 => (
    bdO (integer_made n true v12) fun v16 => (
    bdO (integer_made n y.Negative v14) fun v18 => (
    some ((v16, v18, 0))
    )
    )
    )
    )
   ) (
    bdO (integer_made n false v6.1) fun v20 => (
    bdO (integer_made n y.Negative v8) fun v22 => (
    some ((v20, v22, 0))
    )
    )
   )
  ) (
   bdO (integer_made n (x'.Negative != y.Negative) v6.1) fun v24 => (
   bdO (integer_made n y.Negative v8) fun v26 => (
   some ((v24, v26, 0))
   )
   )
  )
  )
  )
 )
 )
 )

def fraction_reduced (n : Nat) (num : api_Int) (den : api_Int) : Option (api_Rat) :=
 bdO (integer_Sign n den) fun v1 => (
 cdO (decide (v1 < 0)) (
  bdO (integer_Neg n num) fun v4 => (
  bdO (integer_Neg n den) fun v6 => (
  bdO (integer_Gcd n v4 v6) fun v8 => (
  bdO (integer_Divide n v4 v8) fun v10 => (
  bdO (integer_Divide n v6 v8) fun v12 => (
  some (api_Rat.mk v10.1 v12.1)
  )
  )
  )
  )
  )
 ) (
  bdO (integer_Gcd n num den) fun v14 => (
  bdO (integer_Divide n num v14) fun v16 => (
  bdO (integer_Divide n den v14) fun v18 => (
  some (api_Rat.mk v16.1 v18.1)
  )
  )
  )
 )
 )

def fraction_New (n : Nat) (num : api_Int) (den : api_Int) : Option (api_Rat × Int) :=
 bdO (fraction_counted n num) fun v1 => (
 bdO (fraction_counted n den) fun v3 => (
 bdO (integer_Sign n v3) fun v5 => (
 cdO ((v5 : Int) == 0) (
  some ((api_Rat.mk (api_Int.mk false []) (api_Int.mk false []), 14))
 ) (
  bdO (fraction_reduced n v1 v3) fun v8 => (
  some ((v8, 0))
  )
 )
 )
 )
 )

def fraction_Of (n : Nat) (n' : Int) (d : Int) : Option (api_Rat × Int) :=
 bdO (integer_Of n n') fun v1 => (
 bdO (integer_Of n d) fun v3 => (
 bdO (fraction_New n v1 v3) fun v5 => (
 some ((v5.1, v5.2))
 )
 )
 )

def integer_Compare (n : Nat) (x' : api_Int) (y : api_Int) : Option (Int) :=
 bdO (integer_Sign n x') fun v1 => (
 bdO (integer_Sign n y) fun v3 => (
 cdO ((v1 : Int) != v3) (
  bdO (cmp_Compare_int n v1 v3) fun v6 => (
  some (v6)
  )
 ) (
  bdO (integer_groups n x') fun v8 => (
  bdO (integer_groups n y) fun v10 => (
  bdO (integer_compare n v8 v10) fun v12 => (
  cdO x'.Negative (
   some (wrapF .i64 (0 - v12))
  ) (
   some (v12)
  )
  )
  )
  )
 )
 )
 )

def fraction_Valid (n : Nat) (x' : api_Rat) : Option (Bool) :=
 bdO (integer_Valid n x'.Num) fun v1 => (
 cdO (!v1) (
  some (false)
 ) (
  bdO (integer_Valid n x'.Den) fun v4 => (
  cdO (!v4) (
   some (false)
  ) (
   bdO (integer_Sign n x'.Den) fun v7 => (
   cdO (decide (v7 ≤ 0)) (
    some (false)
   ) (
    bdO (integer_Gcd n x'.Num x'.Den) fun v10 => (
    bdO (integer_Of n 1) fun v12 => (
    bdO (integer_Compare n v10 v12) fun v14 => (
    some ((v14 : Int) == 0)
    )
    )
    )
   )
   )
  )
  )
 )
 )

def fraction_copied (n : Nat) (x' : api_Rat) : Option (api_Rat) :=
 bdO (integer_Neg n x'.Num) fun v1 => (
 bdO (integer_Neg n v1) fun v3 => (
 bdO (integer_Neg n x'.Den) fun v5 => (
 bdO (integer_Neg n v5) fun v7 => (
 some (api_Rat.mk v3 v7)
 )
 )
 )
 )

def fraction_Value (n : Nat) (x' : api_Rat) : Option (api_Rat) :=
 bdO (fraction_Valid n x') fun v1 => (
 cdO v1 (
  bdO (fraction_copied n x') fun v4 => (
  some (v4)
  )
 ) (
  bdO (fraction_Whole n 0) fun v6 => (
  some (v6)
  )
 )
 )

def integer_Mul (n : Nat) (x' : api_Int) (y : api_Int) : Option (api_Int) :=
 bdO (integer_groups n x') fun v1 => (
 bdO (integer_groups n y) fun v3 => (
 bdO (integer_times n v1 v3) fun v5 => (
 bdO (integer_made n (x'.Negative != y.Negative) v5) fun v7 => (
 some (v7)
 )
 )
 )
 )

def fraction_Mul (n : Nat) (x' : api_Rat) (y : api_Rat) : Option (api_Rat) :=
 bdO (fraction_Value n x') fun v1 => (
 bdO (fraction_Value n y) fun v3 => (
 bdO (integer_Mul n v1.Num v3.Num) fun v5 => (
 bdO (integer_Mul n v1.Den v3.Den) fun v7 => (
 bdO (fraction_reduced n v5 v7) fun v9 => (
 some (v9)
 )
 )
 )
 )
 )

def integer_sum (n : Nat) (negative : Bool) (a : List Int) (other : Bool) (b : List Int) : Option (api_Int) :=
 cdO (negative == other) (
  bdO (integer_plus n a b) fun v2 => (
  bdO (integer_made n negative v2) fun v4 => (
  some (v4)
  )
  )
 ) (
  bdO (integer_compare n a b) fun v6 => (
  cdO (decide (v6 ≥ 0)) (
   bdO (integer_minus n a b) fun v9 => (
   bdO (integer_made n negative v9) fun v11 => (
   some (v11)
   )
   )
  ) (
   bdO (integer_minus n b a) fun v13 => (
   bdO (integer_made n other v13) fun v15 => (
   some (v15)
   )
   )
  )
  )
 )

def integer_Add (n : Nat) (x' : api_Int) (y : api_Int) : Option (api_Int) :=
 bdO (integer_groups n x') fun v1 => (
 bdO (integer_groups n y) fun v3 => (
 bdO (integer_sum n x'.Negative v1 y.Negative v3) fun v5 => (
 some (v5)
 )
 )
 )

def fraction_Add (n : Nat) (x' : api_Rat) (y : api_Rat) : Option (api_Rat) :=
 bdO (fraction_Value n x') fun v1 => (
 bdO (fraction_Value n y) fun v3 => (
 bdO (integer_Mul n v1.Num v3.Den) fun v5 => (
 bdO (integer_Mul n v3.Num v1.Den) fun v7 => (
 bdO (integer_Add n v5 v7) fun v9 => (
 bdO (integer_Mul n v1.Den v3.Den) fun v11 => (
 bdO (fraction_reduced n v9 v11) fun v13 => (
 some (v13)
 )
 )
 )
 )
 )
 )
 )

def predicate_Meet_1 (n : Nat) (p : Int) (q : Int) (p' : Bool) (p'' : List Int) (p''' : Bool) (p'''' : List Int) : Option (api_Rat) :=
 bdO (fraction_Whole n p) fun v1 => (
 bdO (fraction_Whole n (wrapF .i64 (q - p))) fun v3 => (
 bdO (fraction_Mul n (api_Rat.mk (api_Int.mk p' p'') (api_Int.mk p''' p'''')) v3) fun v5 => (
 bdO (fraction_Add n v1 v5) fun v7 => (
 some (v7)
 )
 )
 )
 )

def predicate_Meet (n : Nat) (a : api_Pix) (b : api_Pix) (c : api_Pix) (d : api_Pix) : Option (api_Place × Int) :=
 bdO (predicate_Relate n a b c d) fun v1 => (
 cdO ((v1.2 : Int) != 0) (
  some ((api_Place.mk (api_Rat.mk (api_Int.mk false []) (api_Int.mk false [])) (api_Rat.mk (api_Int.mk false []) (api_Int.mk false [])), v1.2))
 ) (
  cdO ((v1.1 : Int) == 0) (
   some ((api_Place.mk (api_Rat.mk (api_Int.mk false []) (api_Int.mk false [])) (api_Rat.mk (api_Int.mk false []) (api_Int.mk false [])), 6))
  ) (
   cdO ((v1.1 : Int) == 3) (
    some ((api_Place.mk (api_Rat.mk (api_Int.mk false []) (api_Int.mk false [])) (api_Rat.mk (api_Int.mk false []) (api_Int.mk false [])), 11))
   ) (
    cdO ((v1.1 : Int) == 1) (
     bdO (loopO (α := Int) (β := Sum (Unit) (api_Place × Int)) n (fun again17 x_7 => (
      cdO (decide (x_7 < 2)) (
       gdO (inR x_7 ([a, b].length)) (
       bdO (predicate_on n c d (gt [a, b] x_7)) fun v20 => (
       cdO v20 (
        bdO (fraction_Whole n (gt [a, b] x_7).X) fun v23 => (
        bdO (fraction_Whole n (gt [a, b] x_7).Y) fun v25 => (
        some (Sum.inr ((api_Place.mk v23 v25, 0)))
        )
        )
       ) (
        again17 (wrapF .i64 (x_7 + 1))
       )
       )
       )
      ) (
       some (Sum.inl ())
      )
     )) 0) fun o27 => (
      match o27 with
      | .inl _ => (
       bdO (predicate_on n a b c) fun v30 => (
       cdO (!v30) (
        bdO (fraction_Whole n d.X) fun v33 => (
        bdO (fraction_Whole n d.Y) fun v35 => (
        some ((api_Place.mk v33 v35, 0))
        )
        )
       ) (
        bdO (fraction_Whole n c.X) fun v37 => (
        bdO (fraction_Whole n c.Y) fun v39 => (
        some ((api_Place.mk v37 v39, 0))
        )
        )
       )
       )
      )
      | .inr (r0) => (
       some r0
      ))
    ) (
     bdO (predicate_cross n c d a) fun v41 => (
     bdO (predicate_cross n c d b) fun v43 => (
     bdO (fraction_Of n v41 (wrapF .i64 (v41 - v43))) fun v45 => (
     bdO (predicate_Meet_1 n a.X b.X v45.1.Num.Negative v45.1.Num.Groups v45.1.Den.Negative v45.1.Den.Groups) fun v47 => (
     bdO (predicate_Meet_1 n a.Y b.Y v45.1.Num.Negative v45.1.Num.Groups v45.1.Den.Negative v45.1.Den.Groups) fun v49 => (
     some ((api_Place.mk v47 v49, 0))
     )
     )
     )
     )
     )
    )
   )
  )
 )
 )

def predicate_Orient (n : Nat) (a : api_Pix) (b : api_Pix) (c : api_Pix) : Option (Int) :=
 bdO (predicate_Check n [a, b, c]) fun v1 => (
 cdO ((v1 : Int) != 0) (
  some (0)
 ) (
  bdO (predicate_cross n a b c) fun v4 => (
  bdO (predicate_sign n v4) fun v6 => (
  some (v6)
  )
  )
 )
 )

def predicate_Circle_1_w (n : Nat) (p : api_Pix) (q : api_Pix) (r' : api_Pix) (p' : Bool) (p'' : List Int) (p''' : Int) (p'''' : Int) : Option (Bool × List Int) :=
 bdO (predicate_dot n (api_Pix.mk p''' p'''') p p) fun v15 => (
 bdO (integer_Of n v15) fun v17 => (
 bdO (predicate_cross n (api_Pix.mk p''' p'''') q r') fun v19 => (
 bdO (integer_Of n v19) fun v21 => (
 bdO (integer_Mul n v17 v21) fun v23 => (
 bdO (integer_Add n (api_Int.mk p' p'') v23) fun v25 => (
 some ((v25.Negative, v25.Groups))
 )
 )
 )
 )
 )
 )

def predicate_Circle (n : Nat) (a : api_Pix) (b : api_Pix) (c : api_Pix) (d : api_Pix) : Option (Int) :=
 bdO (predicate_Orient n a b c) fun v1 => (
 cdO ((v1 : Int) == 0) (
  some (0)
 ) (
  bdO (predicate_Check n [d]) fun v4 => (
  cdO ((v4 : Int) != 0) (
   some (0)
  ) (
   bdO (integer_Of n 0) fun v7 => (
   bdO (predicate_Circle_1_w n a b c v7.Negative v7.Groups d.X d.Y) fun v9 => (
   bdO (predicate_Circle_1_w n b c a v9.1 v9.2 d.X d.Y) fun v11 => (
   bdO (predicate_Circle_1_w n c a b v11.1 v11.2 d.X d.Y) fun v13 => (
   bdO (integer_Sign n (api_Int.mk v13.1 v13.2)) fun v15 => (
   some (wrapF .i64 (v1 * v15))
   )
   )
   )
   )
   )
  )
  )
 )
 )

def fiducialref01_made (n : Nat) (negative : Bool) (l : List Int) : Option (api_Int) :=
 bdO (loopO (α := Int) (β := Int) n (fun again6 n_1 => (
  cdO (decide (n_1 > 0)) (
   gdO (inR (wrapF .i64 (n_1 - 1)) l.length) (
   cdO (((gt l (wrapF .i64 (n_1 - 1))) : Int) == 0) (
    again6 (wrapF .i64 (n_1 - 1))
   ) (
    some (n_1)
   )
   )
  ) (
   some (n_1)
  )
 )) (l.length : Int)) fun n_5 => (
  cdO negative (
   gdO (inS 0 n_5 l.length) (
   gdO (decide ((0 + ((l.drop (0 : Int).toNat).take (n_5.toNat - (0 : Int).toNat)).length) * 4 ≤ 140737488355328)) (
   gdO (decide (0 + ((l.drop (0 : Int).toNat).take (n_5.toNat - (0 : Int).toNat)).length ≤ 4611686018427387904)) (
   some (api_Int.mk (decide (n_5 > 0)) ((l.drop (0 : Int).toNat).take (n_5.toNat - (0 : Int).toNat)))
   )
   )
   )
  ) (
   gdO (inS 0 n_5 l.length) (
   gdO (decide ((0 + ((l.drop (0 : Int).toNat).take (n_5.toNat - (0 : Int).toNat)).length) * 4 ≤ 140737488355328)) (
   gdO (decide (0 + ((l.drop (0 : Int).toNat).take (n_5.toNat - (0 : Int).toNat)).length ≤ 4611686018427387904)) (
   some (api_Int.mk false ((l.drop (0 : Int).toNat).take (n_5.toNat - (0 : Int).toNat)))
   )
   )
   )
  )
 )

def fiducialref01_Of (n : Nat) (n' : Int) : Option (api_Int) :=
 cdO (decide (n' < 0)) (
  bdO (loopO (α := Int × List Int) (β := List Int) n (fun again8 (u_2, l_3) => (
   cdO (decide (u_2 > 0)) (
    gdO (decide ((l_3.length + 1) * 4 ≤ 140737488355328)) (
    gdO (decide (l_3.length + 1 ≤ 4611686018427387904)) (
    again8 (wrapF .u64 (u_2.tdiv 1000000000), l_3 ++ [wrapF .u32 (u_2.tmod 1000000000)])
    )
    )
   ) (
    some (l_3)
   )
  )) (wrapF .u64 ((wrapF .u64 (wrapF .i64 (0 - (wrapF .i64 (n' + 1))))) + 1), [])) fun l_7 => (
   bdO (fiducialref01_made n true l_7) fun v15 => (
   some (v15)
   )
  )
 ) (
  bdO (loopO (α := Int × List Int) (β := List Int) n (fun again23 (u_17, l_18) => (
   cdO (decide (u_17 > 0)) (
    gdO (decide ((l_18.length + 1) * 4 ≤ 140737488355328)) (
    gdO (decide (l_18.length + 1 ≤ 4611686018427387904)) (
    again23 (wrapF .u64 (u_17.tdiv 1000000000), l_18 ++ [wrapF .u32 (u_17.tmod 1000000000)])
    )
    )
   ) (
    some (l_18)
   )
  )) (wrapF .u64 n', [])) fun l_22 => (
   bdO (fiducialref01_made n false l_22) fun v30 => (
   some (v30)
   )
  )
 )

def fiducialref02_whole (n : Nat) (n' : Int) : Option (api_Int) :=
 bdO (fiducialref01_Of n n') fun v1 => (
 some (v1)
 )

def fiducialref02_Whole (n : Nat) (n' : Int) : Option (api_Rat) :=
 bdO (fiducialref02_whole n n') fun v1 => (
 bdO (fiducialref02_whole n 1) fun v3 => (
 some (api_Rat.mk v1 v3)
 )
 )

def fiducialref01_Valid (n : Nat) (x' : api_Int) : Option (Bool) :=
 bdO (loopO (α := Int) (β := Sum (Unit) (Bool)) n (fun again5 i_1 => (
  cdO (decide (i_1 < (x'.Groups.length : Int))) (
   gdO (inR i_1 x'.Groups.length) (
   cdO (decide ((gt x'.Groups i_1) ≥ 1000000000)) (
    some (Sum.inr (false))
   ) (
    again5 (wrapF .i64 (i_1 + 1))
   )
   )
  ) (
   some (Sum.inl ())
  )
 )) 0) fun o9 => (
  match o9 with
  | .inl _ => (
   cdO (((x'.Groups.length : Int) : Int) == 0) (
    some (!x'.Negative)
   ) (
    gdO (inR (wrapF .i64 ((x'.Groups.length : Int) - 1)) x'.Groups.length) (
    some (((gt x'.Groups (wrapF .i64 ((x'.Groups.length : Int) - 1))) : Int) != 0)
    )
   )
  )
  | .inr (r0) => (
   some r0
  ))

def fiducialref01_Value (n : Nat) (x' : api_Int) : Option (api_Int) :=
 bdO (fiducialref01_Valid n x') fun v1 => (
 cdO (!v1) (
  some (api_Int.mk false [])
 ) (
  gdO (decide ((0 + x'.Groups.length) * 4 ≤ 140737488355328)) (
  gdO (decide (0 + x'.Groups.length ≤ 4611686018427387904)) (
  some (x')
  )
  )
 )
 )

def fiducialref01_Sign (n : Nat) (x' : api_Int) : Option (Int) :=
 bdO (fiducialref01_Value n x') fun v1 => (
 cdO (((v1.Groups.length : Int) : Int) == 0) (
  some (0)
 ) (
  cdO v1.Negative (
   some ((-1))
  ) (
   some (1)
  )
 )
 )

def fiducialref01_short (n : Nat) (a : List Int) (d : Int) : Option (List Int × Int) :=
 gdO (decide (0 ≤ (a.length : Int))) (
 gdO (decide ((4 : Int) * (a.length : Int) ≤ 281474976710656)) (
 gdO (decide ((a.length : Int) ≤ 9223372036854775807)) (
 bdO (loopO (α := List Int × Int × Int) (β := List Int × Int) n (fun again13 (q_4, rest_5, i_6) => (
  cdO (decide (i_6 ≥ 0)) (
   gdO (inR i_6 a.length) (
   gdO (!decide (d = 0)) (
   gdO (inR i_6 q_4.length) (
   again13 (q_4.set i_6.toNat (wrapF .u32 (wrapF .u64 ((wrapF .u64 ((wrapF .u64 (rest_5 * 1000000000)) + (wrapF .u64 (gt a i_6)))).tdiv d))), (wrapF .u64 ((wrapF .u64 (rest_5 * 1000000000)) + (wrapF .u64 (gt a i_6)))).tmod d, wrapF .i64 (i_6 - 1))
   )
   )
   )
  ) (
   some ((q_4, rest_5))
  )
 )) (List.replicate (a.length : Int).toNat ((0 : Int) : Int), 0, wrapF .i64 ((a.length : Int) - 1))) fun o18 => (
  match o18 with
  | (q_11, rest_12) => (
   bdO (fiducialref01_made n false q_11) fun v21 => (
   some ((v21.Groups, rest_12))
   )
  ))
 )
 )
 )

def fiducialref01_size (n : Nat) (a : List Int) (b : List Int) : Option (Int) :=
 cdO (((a.length : Int) : Int) != (b.length : Int)) (
  cdO (decide ((a.length : Int) < (b.length : Int))) (
   some ((-1))
  ) (
   some (1)
  )
 ) (
  bdO (loopO (α := Int) (β := Sum (Unit) (Int)) n (fun again9 i_3 => (
   cdO (decide (i_3 ≥ 0)) (
    gdO (inR i_3 a.length) (
    gdO (inR i_3 b.length) (
    cdO (decide ((gt a i_3) < (gt b i_3))) (
     some (Sum.inr ((-1)))
    ) (
     cdO (decide ((gt a i_3) > (gt b i_3))) (
      some (Sum.inr (1))
     ) (
      again9 (wrapF .i64 (i_3 - 1))
     )
    )
    )
    )
   ) (
    some (Sum.inl ())
   )
  )) (wrapF .i64 ((a.length : Int) - 1))) fun o15 => (
   match o15 with
   | .inl _ => (
    some (0)
   )
   | .inr (r0) => (
    some r0
   ))
 )

def fiducialref01_scaled (n : Nat) (a : List Int) (d : Int) : Option (List Int) :=
 bdO (loopO (α := List Int × Int × Int) (β := List Int × Int) n (fun again10 (out_1, carry_2, i_3) => (
  cdO (decide (i_3 < (a.length : Int))) (
   gdO (inR i_3 a.length) (
   gdO (decide ((out_1.length + 1) * 4 ≤ 140737488355328)) (
   gdO (decide (out_1.length + 1 ≤ 4611686018427387904)) (
   again10 (out_1 ++ [wrapF .u32 ((wrapF .u64 ((wrapF .u64 ((wrapF .u64 (gt a i_3)) * d)) + carry_2)).tmod 1000000000)], wrapF .u64 ((wrapF .u64 ((wrapF .u64 ((wrapF .u64 (gt a i_3)) * d)) + carry_2)).tdiv 1000000000), wrapF .i64 (i_3 + 1))
   )
   )
   )
  ) (
   some ((out_1, carry_2))
  )
 )) ([], 0, 0)) fun o15 => (
  match o15 with
  | (out_8, carry_9) => (
   gdO (decide ((out_8.length + 1) * 4 ≤ 140737488355328)) (
   gdO (decide (out_8.length + 1 ≤ 4611686018427387904)) (
   bdO (fiducialref01_made n false (out_8 ++ [wrapF .u32 carry_9])) fun v20 => (
   some (v20.Groups)
   )
   )
   )
  ))

def fiducialref01_shifted (n : Nat) (a : List Int) (d : Int) : Option (List Int) :=
 gdO (decide ((1 + a.length) * 4 ≤ 140737488355328)) (
 gdO (decide (1 + a.length ≤ 4611686018427387904)) (
 bdO (fiducialref01_made n false ([d] ++ a)) fun v3 => (
 some (v3.Groups)
 )
 )
 )

def fiducialref01_group (n : Nat) (l : List Int) (i : Int) : Option (Int) :=
 cdO (decide (i < (l.length : Int))) (
  gdO (inR i l.length) (
  some (wrapF .u64 (gt l i))
  )
 ) (
  some (0)
 )

def fiducialref01_minus (n : Nat) (a : List Int) (b : List Int) : Option (List Int) :=
 bdO (loopO (α := List Int × Int × Int) (β := List Int) n (fun again12 (out_1, borrow_2, i_3) => (
  cdO (decide (i_3 < (a.length : Int))) (
   bdO (fiducialref01_group n a i_3) fun v14 => (
   bdO (fiducialref01_group n b i_3) fun v16 => (
   gdO (decide ((out_1.length + 1) * 4 ≤ 140737488355328)) (
   gdO (decide (out_1.length + 1 ≤ 4611686018427387904)) (
   again12 (out_1 ++ [wrapF .u32 ((wrapF .u64 ((wrapF .u64 ((wrapF .u64 (1000000000 + v14)) - v16)) - borrow_2)).tmod 1000000000)], wrapF .u64 (1 - (wrapF .u64 ((wrapF .u64 ((wrapF .u64 ((wrapF .u64 (1000000000 + v14)) - v16)) - borrow_2)).tdiv 1000000000))), wrapF .i64 (i_3 + 1))
   )
   )
   )
   )
  ) (
   some (out_1)
  )
 )) ([], 0, 0)) fun out_11 => (
  bdO (fiducialref01_made n false out_11) fun v23 => (
  some (v23.Groups)
  )
 )

def fiducialref01_parts (n : Nat) (a : List Int) (b : List Int) : Option (List Int × List Int) :=
 cdO (((b.length : Int) : Int) == 1) (
  gdO (inR 0 b.length) (
  bdO (fiducialref01_short n a (wrapF .u64 (gt b 0))) fun v3 => (
  bdO (fiducialref01_made n false [(wrapF .u32 v3.2)]) fun v5 => (
  some ((v3.1, v5.Groups))
  )
  )
  )
 ) (
  bdO (fiducialref01_size n a b) fun v7 => (
  cdO (decide (v7 < 0)) (
   some (([], a))
  ) (
   gdO (inR (wrapF .i64 ((b.length : Int) - 1)) b.length) (
   gdO (!decide (wrapF .u64 ((wrapF .u64 (gt b (wrapF .i64 ((b.length : Int) - 1)))) + 1) = 0)) (
   bdO (fiducialref01_scaled n a (wrapF .u64 ((1000000000 : Int).tdiv (wrapF .u64 ((wrapF .u64 (gt b (wrapF .i64 ((b.length : Int) - 1)))) + 1))))) fun v12 => (
   bdO (fiducialref01_scaled n b (wrapF .u64 ((1000000000 : Int).tdiv (wrapF .u64 ((wrapF .u64 (gt b (wrapF .i64 ((b.length : Int) - 1)))) + 1))))) fun v14 => (
   gdO (inS (wrapF .i64 ((wrapF .i64 ((v12.length : Int) - (b.length : Int))) + 1)) (v12.length : Int) v12.length) (
   bdO (fiducialref01_made n false ((v12.drop (wrapF .i64 ((wrapF .i64 ((v12.length : Int) - (b.length : Int))) + 1)).toNat).take ((v12.length : Int).toNat - (wrapF .i64 ((wrapF .i64 ((v12.length : Int) - (b.length : Int))) + 1)).toNat))) fun v17 => (
   gdO (decide (0 ≤ wrapF .i64 ((wrapF .i64 ((v12.length : Int) - (b.length : Int))) + 1))) (
   gdO (decide ((4 : Int) * (wrapF .i64 ((wrapF .i64 ((v12.length : Int) - (b.length : Int))) + 1)) ≤ 281474976710656)) (
   gdO (decide (wrapF .i64 ((wrapF .i64 ((v12.length : Int) - (b.length : Int))) + 1) ≤ 9223372036854775807)) (
   bdO (loopO (α := List Int × List Int × Int) (β := List Int × List Int) n (fun again60 (rest_22, q_23, i_24) => (
    cdO (decide (i_24 ≥ 0)) (
     gdO (inR i_24 v12.length) (
     bdO (fiducialref01_shifted n rest_22 (gt v12 i_24)) fun v63 => (
     bdO (fiducialref01_group n v63 (b.length : Int)) fun v65 => (
     bdO (fiducialref01_group n v63 (wrapF .i64 ((b.length : Int) - 1))) fun v67 => (
     gdO (inR (wrapF .i64 ((b.length : Int) - 1)) v14.length) (
     gdO (!decide (wrapF .u64 ((wrapF .u64 (gt v14 (wrapF .i64 ((b.length : Int) - 1)))) + 1) = 0)) (
     bdO (fiducialref01_scaled n v14 (wrapF .u64 ((wrapF .u64 ((wrapF .u64 (v65 * 1000000000)) + v67)).tdiv (wrapF .u64 ((wrapF .u64 (gt v14 (wrapF .i64 ((b.length : Int) - 1)))) + 1))))) fun v71 => (
     bdO (fiducialref01_minus n v63 v71) fun v73 => (
     bdO (loopO (α := List Int × Int) (β := List Int × Int) n (fun again84 (rest_75, guess_76) => (
      bdO (fiducialref01_size n rest_75 v14) fun v85 => (
      cdO (decide (v85 ≥ 0)) (
       bdO (fiducialref01_minus n rest_75 v14) fun v88 => (
       again84 (v88, wrapF .u64 (guess_76 + 1))
       )
      ) (
       some ((rest_75, guess_76))
      )
      )
     )) (v73, wrapF .u64 ((wrapF .u64 ((wrapF .u64 (v65 * 1000000000)) + v67)).tdiv (wrapF .u64 ((wrapF .u64 (gt v14 (wrapF .i64 ((b.length : Int) - 1)))) + 1))))) fun o90 => (
      match o90 with
      | (rest_82, guess_83) => (
       gdO (inR i_24 q_23.length) (
       again60 (rest_82, q_23.set i_24.toNat (wrapF .u32 guess_83), wrapF .i64 (i_24 - 1))
       )
      ))
     )
     )
     )
     )
     )
     )
     )
     )
    ) (
     some ((rest_22, q_23))
    )
   )) (v17.Groups, List.replicate (wrapF .i64 ((wrapF .i64 ((v12.length : Int) - (b.length : Int))) + 1)).toNat ((0 : Int) : Int), wrapF .i64 ((v12.length : Int) - (b.length : Int)))) fun o94 => (
    match o94 with
    | (rest_58, q_59) => (
     bdO (fiducialref01_short n rest_58 (wrapF .u64 ((1000000000 : Int).tdiv (wrapF .u64 ((wrapF .u64 (gt b (wrapF .i64 ((b.length : Int) - 1)))) + 1))))) fun v97 => (
     bdO (fiducialref01_made n false q_59) fun v99 => (
     some ((v99.Groups, v97.1))
     )
     )
    ))
   )
   )
   )
   )
   )
   )
   )
   )
   )
  )
  )
 )

def fiducialref01_pair (n : Nat) (a : List Int) : Option (Int) :=
 bdO (fiducialref01_group n a 1) fun v1 => (
 bdO (fiducialref01_group n a 0) fun v3 => (
 some (wrapF .u64 ((wrapF .u64 (v1 * 1000000000)) + v3))
 )
 )

def fiducialref01_Gcd (n : Nat) (x' : api_Int) (y : api_Int) : Option (api_Int) :=
 bdO (fiducialref01_Value n x') fun v1 => (
 bdO (fiducialref01_Value n y) fun v3 => (
 bdO (loopO (α := List Int × List Int) (β := List Int × List Int) n (fun again16 (a_5, b_6) => (
  cdO (decide ((b_6.length : Int) > 0)) (
   cdO (decide ((a_5.length : Int) > 2)) (
    bdO (fiducialref01_parts n a_5 b_6) fun v19 => (
    again16 (b_6, v19.2)
    )
   ) (
    cdO (decide ((b_6.length : Int) > 2)) (
     bdO (fiducialref01_parts n a_5 b_6) fun v22 => (
     again16 (b_6, v22.2)
     )
    ) (
     some ((a_5, b_6))
    )
   )
  ) (
   some ((a_5, b_6))
  )
 )) (v1.Groups, v3.Groups)) fun o24 => (
  match o24 with
  | (a_14, b_15) => (
   cdO (((b_15.length : Int) : Int) == 0) (
    bdO (fiducialref01_made n false a_14) fun v28 => (
    some (v28)
    )
   ) (
    bdO (fiducialref01_pair n a_14) fun v30 => (
    bdO (fiducialref01_pair n b_15) fun v32 => (
    bdO (loopO (α := Int × Int) (β := Int) n (fun again39 (u_34, v_35) => (
     cdO (decide (v_35 > 0)) (
      gdO (!decide (v_35 = 0)) (
      again39 (v_35, u_34.tmod v_35)
      )
     ) (
      some (u_34)
     )
    )) (v30, v32)) fun u_38 => (
     bdO (fiducialref01_made n false [(wrapF .u32 (u_38.tmod 1000000000)), (wrapF .u32 (wrapF .u64 (u_38.tdiv 1000000000)))]) fun v45 => (
     some (v45)
     )
    )
    )
    )
   )
  ))
 )
 )

def fiducialref01_Neg (n : Nat) (x' : api_Int) : Option (api_Int) :=
 bdO (fiducialref01_Value n x') fun v1 => (
 bdO (fiducialref01_made n (!v1.Negative) v1.Groups) fun v3 => (
 some (v3)
 )
 )

def fiducialref01_plus (n : Nat) (a : List Int) (b : List Int) : Option (List Int) :=
 bdO (loopO (α := List Int × Int × Int) (β := List Int × Int) n (fun again20 (out_1, carry_2, i_3) => (
  cdO (decide (i_3 < (a.length : Int))) (
   bdO (fiducialref01_group n a i_3) fun v22 => (
   bdO (fiducialref01_group n b i_3) fun v24 => (
   gdO (decide ((out_1.length + 1) * 4 ≤ 140737488355328)) (
   gdO (decide (out_1.length + 1 ≤ 4611686018427387904)) (
   again20 (out_1 ++ [wrapF .u32 ((wrapF .u64 ((wrapF .u64 (v22 + v24)) + carry_2)).tmod 1000000000)], wrapF .u64 ((wrapF .u64 ((wrapF .u64 (v22 + v24)) + carry_2)).tdiv 1000000000), wrapF .i64 (i_3 + 1))
   )
   )
   )
   )
  ) (
   cdO (decide (i_3 < (b.length : Int))) (
    bdO (fiducialref01_group n a i_3) fun v29 => (
    bdO (fiducialref01_group n b i_3) fun v31 => (
    gdO (decide ((out_1.length + 1) * 4 ≤ 140737488355328)) (
    gdO (decide (out_1.length + 1 ≤ 4611686018427387904)) (
    again20 (out_1 ++ [wrapF .u32 ((wrapF .u64 ((wrapF .u64 (v29 + v31)) + carry_2)).tmod 1000000000)], wrapF .u64 ((wrapF .u64 ((wrapF .u64 (v29 + v31)) + carry_2)).tdiv 1000000000), wrapF .i64 (i_3 + 1))
    )
    )
    )
    )
   ) (
    some ((out_1, carry_2))
   )
  )
 )) ([], 0, 0)) fun o35 => (
  match o35 with
  | (out_18, carry_19) => (
   gdO (decide ((out_18.length + 1) * 4 ≤ 140737488355328)) (
   gdO (decide (out_18.length + 1 ≤ 4611686018427387904)) (
   bdO (fiducialref01_made n false (out_18 ++ [wrapF .u32 carry_19])) fun v40 => (
   some (v40.Groups)
   )
   )
   )
  ))

def fiducialref01_Add (n : Nat) (x' : api_Int) (y : api_Int) : Option (api_Int) :=
 bdO (fiducialref01_Value n x') fun v1 => (
 bdO (fiducialref01_Value n y) fun v3 => (
 cdO (v1.Negative == v3.Negative) (
  bdO (fiducialref01_plus n v1.Groups v3.Groups) fun v6 => (
  bdO (fiducialref01_made n v1.Negative v6) fun v8 => (
  some (v8)
  )
  )
 ) (
  bdO (fiducialref01_size n v1.Groups v3.Groups) fun v10 => (
  cdO (decide (v10 ≥ 0)) (
   bdO (fiducialref01_minus n v1.Groups v3.Groups) fun v13 => (
   bdO (fiducialref01_made n v1.Negative v13) fun v15 => (
   some (v15)
   )
   )
  ) (
   bdO (fiducialref01_minus n v3.Groups v1.Groups) fun v17 => (
   bdO (fiducialref01_made n v3.Negative v17) fun v19 => (
   some (v19)
   )
   )
  )
  )
 )
 )
 )

def fiducialref01_Sub (n : Nat) (x' : api_Int) (y : api_Int) : Option (api_Int) :=
 bdO (fiducialref01_Neg n y) fun v1 => (
 bdO (fiducialref01_Add n x' v1) fun v3 => (
 some (v3)
 )
 )

def fiducialref01_Compare (n : Nat) (x' : api_Int) (y : api_Int) : Option (Int) :=
 bdO (fiducialref01_Sub n x' y) fun v1 => (
 bdO (fiducialref01_Sign n v1) fun v3 => (
 some (v3)
 )
 )

def fiducialref02_Valid (n : Nat) (x' : api_Rat) : Option (Bool) :=
 bdO (fiducialref01_Valid n x'.Num) fun v1 => (
 cdO (!v1) (
  some (false)
 ) (
  bdO (fiducialref01_Valid n x'.Den) fun v4 => (
  cdO (!v4) (
   some (false)
  ) (
   bdO (fiducialref01_Sign n x'.Den) fun v7 => (
   cdO (decide (v7 ≤ 0)) (
    some (false)
   ) (
    bdO (fiducialref01_Gcd n x'.Num x'.Den) fun v10 => (
    bdO (fiducialref02_whole n 1) fun v12 => (
    bdO (fiducialref01_Compare n v10 v12) fun v14 => (
    some ((v14 : Int) == 0)
    )
    )
    )
   )
   )
  )
  )
 )
 )

def fiducialref02_Value (n : Nat) (x' : api_Rat) : Option (api_Rat) :=
 bdO (fiducialref02_Valid n x') fun v1 => (
 cdO v1 (
  some (x')
 ) (
  bdO (fiducialref02_Whole n 0) fun v4 => (
  some (v4)
  )
 )
 )

def fiducialref02_Neg (n : Nat) (x' : api_Rat) : Option (api_Rat) :=
 bdO (fiducialref02_Value n x') fun v1 => (
 bdO (fiducialref01_Neg n v1.Num) fun v3 => (
 some (api_Rat.mk v3 v1.Den)
 )
 )

def fiducialref01_Mul (n : Nat) (x' : api_Int) (y : api_Int) : Option (api_Int) :=
 bdO (fiducialref01_Value n x') fun v1 => (
 bdO (fiducialref01_Value n y) fun v3 => (
 gdO (decide (0 ≤ wrapF .i64 ((v1.Groups.length : Int) + (v3.Groups.length : Int)))) (
 gdO (decide ((4 : Int) * (wrapF .i64 ((v1.Groups.length : Int) + (v3.Groups.length : Int))) ≤ 281474976710656)) (
 gdO (decide (wrapF .i64 ((v1.Groups.length : Int) + (v3.Groups.length : Int)) ≤ 9223372036854775807)) (
 bdO (loopO (α := List Int × Int) (β := List Int) n (fun again30 (out_8, i_9) => (
  cdO (decide (i_9 < (v1.Groups.length : Int))) (
   bdO (loopO (α := List Int × Int × Int) (β := List Int × Int) n (fun again41 (out_32, carry_33, j_34) => (
    cdO (decide (j_34 < (v3.Groups.length : Int))) (
     gdO (inR (wrapF .i64 (i_9 + j_34)) out_32.length) (
     gdO (inR i_9 v1.Groups.length) (
     gdO (inR j_34 v3.Groups.length) (
     again41 (out_32.set (wrapF .i64 (i_9 + j_34)).toNat (wrapF .u32 ((wrapF .u64 ((wrapF .u64 ((wrapF .u64 (gt out_32 (wrapF .i64 (i_9 + j_34)))) + (wrapF .u64 ((wrapF .u64 (gt v1.Groups i_9)) * (wrapF .u64 (gt v3.Groups j_34)))))) + carry_33)).tmod 1000000000)), wrapF .u64 ((wrapF .u64 ((wrapF .u64 ((wrapF .u64 (gt out_32 (wrapF .i64 (i_9 + j_34)))) + (wrapF .u64 ((wrapF .u64 (gt v1.Groups i_9)) * (wrapF .u64 (gt v3.Groups j_34)))))) + carry_33)).tdiv 1000000000), wrapF .i64 (j_34 + 1))
     )
     )
     )
    ) (
     some ((out_32, carry_33))
    )
   )) (out_8, 0, 0)) fun o46 => (
    match o46 with
    | (out_39, carry_40) => (
     gdO (inR (wrapF .i64 (i_9 + (v3.Groups.length : Int))) out_39.length) (
     again30 (out_39.set (wrapF .i64 (i_9 + (v3.Groups.length : Int))).toNat (wrapF .u32 carry_40), wrapF .i64 (i_9 + 1))
     )
    ))
  ) (
   some (out_8)
  )
 )) (List.replicate (wrapF .i64 ((v1.Groups.length : Int) + (v3.Groups.length : Int))).toNat ((0 : Int) : Int), 0)) fun out_29 => (
  bdO (fiducialref01_made n (v1.Negative != v3.Negative) out_29) fun v53 => (
  some (v53)
  )
 )
 )
 )
 )
 )
 )

def fiducialref01_Divide (n : Nat) (x' : api_Int) (y : api_Int) : Option (api_Int × api_Int × Int) :=
 bdO (fiducialref01_Value n x') fun v1 => (
 bdO (fiducialref01_Value n y) fun v3 => (
 cdO (((v3.Groups.length : Int) : Int) == 0) (
  some ((api_Int.mk false [], api_Int.mk false [], 14))
 ) (
  bdO (fiducialref01_parts n v1.Groups v3.Groups) fun v6 => (
  bdO (fiducialref01_made n (v1.Negative != v3.Negative) v6.1) fun v8 => (
  cdO (v1.Negative != v3.Negative) (
   cdO (decide ((v6.2.length : Int) > 0)) (
    bdO (fiducialref01_Of n 1) fun v12 => (
    bdO (fiducialref01_Sub n v8 v12) fun v14 => (
    bdO (fiducialref01_Mul n v14 v3) fun v16 => (
    bdO (fiducialref01_Sub n v1 v16) fun v18 => (
    some ((v14, v18, 0))
    )
    )
    )
    )
   ) (
    bdO (fiducialref01_Mul n v8 v3) fun v20 => (
    bdO (fiducialref01_Sub n v1 v20) fun v22 => (
    some ((v8, v22, 0))
    )
    )
   )
  ) (
   bdO (fiducialref01_Mul n v8 v3) fun v24 => (
   bdO (fiducialref01_Sub n v1 v24) fun v26 => (
   some ((v8, v26, 0))
   )
   )
  )
  )
  )
 )
 )
 )

def fiducialref02_reduced (n : Nat) (num : api_Int) (den : api_Int) : Option (api_Rat) :=
 bdO (fiducialref01_Gcd n num den) fun v1 => (
 bdO (fiducialref01_Sign n den) fun v3 => (
 cdO (decide (v3 < 0)) (
  bdO (fiducialref01_Neg n v1) fun v6 => (
  bdO (fiducialref01_Divide n num v6) fun v8 => (
  bdO (fiducialref01_Divide n den v6) fun v10 => (
  some (api_Rat.mk v8.1 v10.1)
  )
  )
  )
 ) (
  bdO (fiducialref01_Divide n num v1) fun v12 => (
  bdO (fiducialref01_Divide n den v1) fun v14 => (
  some (api_Rat.mk v12.1 v14.1)
  )
  )
 )
 )
 )

def fiducialref02_Add (n : Nat) (x' : api_Rat) (y : api_Rat) : Option (api_Rat) :=
 bdO (fiducialref02_Value n x') fun v1 => (
 bdO (fiducialref02_Value n y) fun v3 => (
 bdO (fiducialref01_Mul n v1.Num v3.Den) fun v5 => (
 bdO (fiducialref01_Mul n v3.Num v1.Den) fun v7 => (
 bdO (fiducialref01_Add n v5 v7) fun v9 => (
 bdO (fiducialref01_Mul n v1.Den v3.Den) fun v11 => (
 bdO (fiducialref02_reduced n v9 v11) fun v13 => (
 some (v13)
 )
 )
 )
 )
 )
 )
 )

def fiducialref02_Sub (n : Nat) (x' : api_Rat) (y : api_Rat) : Option (api_Rat) :=
 bdO (fiducialref02_Neg n y) fun v1 => (
 bdO (fiducialref02_Add n x' v1) fun v3 => (
 some (v3)
 )
 )

def fiducialref02_Sign (n : Nat) (x' : api_Rat) : Option (Int) :=
 bdO (fiducialref02_Value n x') fun v1 => (
 bdO (fiducialref01_Sign n v1.Num) fun v3 => (
 some (v3)
 )
 )

def fiducialref02_Compare (n : Nat) (x' : api_Rat) (y : api_Rat) : Option (Int) :=
 bdO (fiducialref02_Sub n x' y) fun v1 => (
 bdO (fiducialref02_Sign n v1) fun v3 => (
 some (v3)
 )
 )

def fiducialref02_Same (n : Nat) (x' : api_Rat) (y : api_Rat) : Option (Bool) :=
 bdO (fiducialref02_Valid n x') fun v1 => (
 cdO v1 (
  bdO (fiducialref02_Valid n y) fun v4 => (
  cdO v4 (
   bdO (fiducialref02_Compare n x' y) fun v7 => (
   some ((v7 : Int) == 0)
   )
  ) (
   some (false)
  )
  )
 ) (
  some (false)
 )
 )

def fiduciallaw09_known (n : Nat) : Option (Bool) :=
 bdO (predicate_Relate n (api_Pix.mk 0 0) (api_Pix.mk 4 4) (api_Pix.mk 4 0) (api_Pix.mk 0 4)) fun v1 => (
 bdO (predicate_Meet n (api_Pix.mk 0 0) (api_Pix.mk 4 4) (api_Pix.mk 4 0) (api_Pix.mk 0 4)) fun v3 => (
 bdO (predicate_Orient n (api_Pix.mk 0 0) (api_Pix.mk 4 0) (api_Pix.mk 0 4)) fun v5 => (
 cdO ((v5 : Int) == 1) (
  bdO (predicate_Circle n (api_Pix.mk 0 0) (api_Pix.mk 4 0) (api_Pix.mk 0 4) (api_Pix.mk 1 1)) fun v8 => (
  cdO ((v8 : Int) == 1) (
   cdO ((v1.1 : Int) == 2) (
    cdO ((v1.2 : Int) == 0) (
     cdO ((v3.2 : Int) == 0) (
      bdO (fiducialref02_Whole n 2) fun v14 => (
      bdO (fiducialref02_Same n v3.1.X v14) fun v16 => (
      cdO v16 (
       bdO (predicate_Check n [api_Pix.mk 2097152 0]) fun v19 => (
       some ((v19 : Int) == 2)
       )
      ) (
       some (false)
      )
      )
      )
     ) (
      some (false)
     )
    ) (
     some (false)
    )
   ) (
    some (false)
   )
  ) (
   some (false)
  )
  )
 ) (
  some (false)
 )
 )
 )
 )

def cmp_Or_int (n : Nat) (vals : List Int) : Option (Int) :=
 bdO (loopO (α := Int) (β := Sum (Unit) (Int)) n (fun again5 x_1 => (
  cdO (decide (x_1 < (vals.length : Int))) (
   gdO (inR x_1 vals.length) (
   cdO (((gt vals x_1) : Int) != 0) (
    some (Sum.inr ((gt vals x_1)))
   ) (
    again5 (wrapF .i64 (x_1 + 1))
   )
   )
  ) (
   some (Sum.inl ())
  )
 )) 0) fun o9 => (
  match o9 with
  | .inl _ => (
   some (0)
  )
  | .inr (r0) => (
   some r0
  ))

def predicate_Hull_1 (n : Nat) (i : Int) (j : Int) (p : List api_Pix) : Option (Int) :=
 gdO (inR i p.length) (
 gdO (inR j p.length) (
 bdO (cmp_Compare_int n (gt p i).X (gt p j).X) fun v3 => (
 bdO (cmp_Compare_int n (gt p i).Y (gt p j).Y) fun v5 => (
 bdO (cmp_Compare_int n i j) fun v7 => (
 bdO (cmp_Or_int n [v3, v5, v7]) fun v9 => (
 some (v9)
 )
 )
 )
 )
 )
 )

def slices_SortFunc_int_int_w_of_predicate_Hull_1 (n : Nat) (x' : List Int) (c : List api_Pix) : Option (List Int) :=
 gdO (decide (x'.length < 4611686018427387904)) (
 sortC (fun x y => predicate_Hull_1 n x y c) x'
 )

def predicate_Hull_2 (n : Nat) (i : Int) (j : Int) (p : List api_Pix) : Option (Bool) :=
 gdO (inR i p.length) (
 gdO (inR j p.length) (
 some ((((gt p i).X : Int) == (gt p j).X) && ((((gt p i).Y : Int) == (gt p j).Y) && true))
 )
 )

def slices_CompactFunc_int_int_w_of_predicate_Hull_2 (n : Nat) (s : List Int) (c : List api_Pix) : Option (List Int) :=
 cdO (decide ((s.length : Int) < 2)) (
  some (s)
 ) (
  bdO (loopO (α := Int) (β := Sum (Unit) (List Int)) n (fun again118 k_81 => (
   cdO (decide (k_81 < (s.length : Int))) (
    gdO (inR k_81 s.length) (
    gdO (inR (wrapF .i64 (k_81 - 1)) s.length) (
    bdO (predicate_Hull_2 n (gt s k_81) (gt s (wrapF .i64 (k_81 - 1))) c) fun v122 => (
    cdO v122 (
     gdO (inS k_81 (s.length : Int) s.length) (
     bdO (loopO (α := List Int × Int × Int) (β := List Int × Int) n (fun again140 (s_126, k_127, k2_128) => (
      cdO (decide (k2_128 < ((s.length - k_81.toNat : Nat) : Int))) (
       gdO (inR k2_128 (s.length - k_81.toNat)) (
       gdO (inR ((k_81.toNat + k2_128.toNat : Nat) : Int) s_126.length) (
       gdO (inR (wrapF .i64 (k2_128 - 1)) (s.length - k_81.toNat)) (
       gdO (inR ((k_81.toNat + (wrapF .i64 (k2_128 - 1)).toNat : Nat) : Int) s_126.length) (
       bdO (predicate_Hull_2 n (gt s_126 ((k_81.toNat + k2_128.toNat : Nat) : Int)) (gt s_126 ((k_81.toNat + (wrapF .i64 (k2_128 - 1)).toNat : Nat) : Int)) c) fun v146 => (
       cdO (!v146) (
        gdO (inR k_127 s_126.length) (
        again140 (s_126.set k_127.toNat (gt s_126 ((k_81.toNat + k2_128.toNat : Nat) : Int)), wrapF .i64 (k_127 + 1), wrapF .i64 (k2_128 + 1))
        )
       ) (
        again140 (s_126, k_127, wrapF .i64 (k2_128 + 1))
       )
       )
       )
       )
       )
       )
      ) (
       some ((s_126, k_127))
      )
     )) (s, k_81, 1)) fun o150 => (
      match o150 with
      | (s_138, k_139) => (
       gdO (inS k_139 (s_138.length : Int) s_138.length) (
       gdO (inS 0 k_139 s_138.length) (
       some (Sum.inr (((overT s_138 k_139.toNat (List.replicate (s_138.length - k_139.toNat) ((0 : Int) : Int))).take k_139.toNat)))
       )
       )
      ))
     )
    ) (
     again118 (wrapF .i64 (k_81 + 1))
    )
    )
    )
    )
   ) (
    some (Sum.inl ())
   )
  )) 1) fun o155 => (
   match o155 with
   | .inl _ => (
    some (s)
   )
   | .inr (r0) => (
    some r0
   ))
 )

def predicate_Hull_3_w (n : Nat) (p : List Int) (p' : List api_Pix) : Option (List Int) :=
 bdO (loopO (α := List Int × Int) (β := List Int) n (fun again103 (out_70, x_71) => (
  cdO (decide (x_71 < (p.length : Int))) (
   gdO (inR x_71 p.length) (
   bdO (loopO (α := List Int) (β := List Int) n (fun again118 out_106 => (
    cdO (decide ((out_106.length : Int) > 1)) (
     gdO (inR (wrapF .i64 ((out_106.length : Int) - 2)) out_106.length) (
     gdO (inR (gt out_106 (wrapF .i64 ((out_106.length : Int) - 2))) p'.length) (
     gdO (inR (wrapF .i64 ((out_106.length : Int) - 1)) out_106.length) (
     gdO (inR (gt out_106 (wrapF .i64 ((out_106.length : Int) - 1))) p'.length) (
     gdO (inR (gt p x_71) p'.length) (
     bdO (predicate_cross n (gt p' (gt out_106 (wrapF .i64 ((out_106.length : Int) - 2)))) (gt p' (gt out_106 (wrapF .i64 ((out_106.length : Int) - 1)))) (gt p' (gt p x_71))) fun v125 => (
     cdO (decide (v125 ≤ 0)) (
      gdO (inS 0 (wrapF .i64 ((out_106.length : Int) - 1)) out_106.length) (
      again118 (out_106.take (wrapF .i64 ((out_106.length : Int) - 1)).toNat)
      )
     ) (
      some (out_106)
     )
     )
     )
     )
     )
     )
     )
    ) (
     some (out_106)
    )
   )) out_70) fun out_117 => (
    gdO (decide ((out_117.length + 1) * 8 ≤ 140737488355328)) (
    gdO (decide (out_117.length + 1 ≤ 4611686018427387904)) (
    again103 (out_117 ++ [(gt p x_71)], wrapF .i64 (x_71 + 1))
    )
    )
   )
   )
  ) (
   some (out_70)
  )
 )) ([], 0)) fun out_102 => (
  gdO (inS 0 (wrapF .i64 ((out_102.length : Int) - 1)) out_102.length) (
  some (out_102.take (wrapF .i64 ((out_102.length : Int) - 1)).toNat)
  )
 )

def slices_Reverse_int_int_w_2 (n : Nat) (s : List Int) : Option (List Int) :=
 bdO (loopO (α := List Int × Int × Int) (β := List Int) n (fun again23 (s_16, i_17, j_18) => (
  cdO (decide (i_17 < j_18)) (
   gdO (inR j_18 s_16.length) (
   gdO (inR i_17 s_16.length) (
   again23 ((s_16.set i_17.toNat (gt s_16 j_18)).set j_18.toNat (gt s_16 i_17), wrapF .i64 (i_17 + 1), wrapF .i64 (j_18 - 1))
   )
   )
  ) (
   some (s_16)
  )
 )) (s, 0, wrapF .i64 ((s.length : Int) - 1))) fun s_22 => (
  some (s_22)
 )

def predicate_Hull (n : Nat) (l : List api_Pix) : Option (List Int × Int) :=
 cdO (((l.length : Int) : Int) == 0) (
  some (([], 1))
 ) (
  cdO (decide ((l.length : Int) > 1024)) (
   some (([], 3))
  ) (
   bdO (predicate_Check n l) fun v3 => (
   cdO ((v3 : Int) != 0) (
    some (([], 2))
   ) (
    gdO (decide (0 ≤ (l.length : Int))) (
    gdO (decide ((8 : Int) * (l.length : Int) ≤ 281474976710656)) (
    gdO (decide ((l.length : Int) ≤ 9223372036854775807)) (
    bdO (loopO (α := List Int × Int) (β := List Int) n (fun again14 (order_9, x_10) => (
     cdO (decide (x_10 < ((List.replicate (l.length : Int).toNat ((0 : Int) : Int)).length : Int))) (
      gdO (inR x_10 order_9.length) (
      again14 (order_9.set x_10.toNat x_10, wrapF .i64 (x_10 + 1))
      )
     ) (
      some (order_9)
     )
    )) (List.replicate (l.length : Int).toNat ((0 : Int) : Int), 0)) fun order_13 => (
     bdO (slices_SortFunc_int_int_w_of_predicate_Hull_1 n order_13 l) fun v20 => (
     gdO (decide (v20.length = order_13.length)) (
     bdO (slices_CompactFunc_int_int_w_of_predicate_Hull_2 n v20 l) fun v23 => (
     cdO (((v23.length : Int) : Int) == 1) (
      some ((v23, 0))
     ) (
      bdO (predicate_Hull_3_w n v23 l) fun v26 => (
      bdO (slices_Reverse_int_int_w_2 n v23) fun v28 => (
      gdO (decide (v28.length = v23.length)) (
      bdO (predicate_Hull_3_w n v28 l) fun v31 => (
      gdO (decide ((v26.length + v31.length) * 8 ≤ 140737488355328)) (
      gdO (decide (v26.length + v31.length ≤ 4611686018427387904)) (
      some ((v26 ++ v31, 0))
      )
      )
      )
      )
      )
      )
     )
     )
     )
     )
    )
    )
    )
    )
   )
   )
  )
 )

def fiducialref09_Valid (n : Nat) (p : api_Pix) : Option (Bool) :=
 cdO (decide (p.X ≥ (-1048576))) (
  cdO (decide (p.X ≤ 1048576)) (
   cdO (decide (p.Y ≥ (-1048576))) (
    some (decide (p.Y ≤ 1048576))
   ) (
    some (false)
   )
  ) (
   some (false)
  )
 ) (
  some (false)
 )

def fiducialref09_All (n : Nat) (l : List api_Pix) : Option (Bool) :=
 bdO (loopO (α := Int) (β := Sum (Unit) (Bool)) n (fun again7 i_1 => (
  cdO (decide (i_1 < (l.length : Int))) (
   gdO (inR i_1 l.length) (
   bdO (fiducialref09_Valid n (gt l i_1)) fun v10 => (
   cdO (!v10) (
    some (Sum.inr (false))
   ) (
    again7 (wrapF .i64 (i_1 + 1))
   )
   )
   )
  ) (
   some (Sum.inl ())
  )
 )) 0) fun o13 => (
  match o13 with
  | .inl _ => (
   some (true)
  )
  | .inr (r0) => (
   some r0
  ))

def fiducialref09_before (n : Nat) (a : api_Pix) (b : api_Pix) : Option (Bool) :=
 cdO (decide (a.X < b.X)) (
  some (true)
 ) (
  cdO ((a.X : Int) == b.X) (
   some (decide (a.Y < b.Y))
  ) (
   some (false)
  )
 )

def fiducialref09_first (n : Nat) (l : List api_Pix) (i : Int) : Option (Int) :=
 bdO (loopO (α := Int) (β := Sum (Unit) (Int)) n (fun again6 k_1 => (
  cdO (decide (k_1 < i)) (
   gdO (inR k_1 l.length) (
   gdO (inR i l.length) (
   cdO ((((gt l k_1).X : Int) == (gt l i).X) && ((((gt l k_1).Y : Int) == (gt l i).Y) && true)) (
    some (Sum.inr (k_1))
   ) (
    again6 (wrapF .i64 (k_1 + 1))
   )
   )
   )
  ) (
   some (Sum.inl ())
  )
 )) 0) fun o11 => (
  match o11 with
  | .inl _ => (
   some (i)
  )
  | .inr (r0) => (
   some r0
  ))

def fiducialref09_sign (n : Nat) (n' : Int) : Option (Int) :=
 cdO (decide (n' < 0)) (
  some ((-1))
 ) (
  cdO (decide (n' > 0)) (
   some (1)
  ) (
   some (0)
  )
 )

def fiducialref09_Orient (n : Nat) (a : api_Pix) (b : api_Pix) (c : api_Pix) : Option (Int) :=
 bdO (fiducialref09_All n [a, b, c]) fun v1 => (
 cdO (!v1) (
  some (0)
 ) (
  bdO (fiducialref09_sign n (wrapF .i64 ((wrapF .i64 ((wrapF .i64 (b.X - a.X)) * (wrapF .i64 (c.Y - a.Y)))) - (wrapF .i64 ((wrapF .i64 (b.Y - a.Y)) * (wrapF .i64 (c.X - a.X))))))) fun v4 => (
  some (v4)
  )
 )
 )

def fiducialref09_least (n : Nat) (a : Int) (b : Int) : Option (Int) :=
 cdO (decide (a < b)) (
  some (a)
 ) (
  some (b)
 )

def fiducialref09_most (n : Nat) (a : Int) (b : Int) : Option (Int) :=
 cdO (decide (a > b)) (
  some (a)
 ) (
  some (b)
 )

def fiducialref09_Between (n : Nat) (a : api_Pix) (b : api_Pix) (c : api_Pix) : Option (Bool) :=
 bdO (fiducialref09_All n [a, b, c]) fun v1 => (
 cdO (!v1) (
  some (false)
 ) (
  bdO (fiducialref09_Orient n a b c) fun v4 => (
  cdO ((v4 : Int) != 0) (
   some (false)
  ) (
   bdO (fiducialref09_least n a.X b.X) fun v7 => (
   cdO (decide (c.X ≥ v7)) (
    bdO (fiducialref09_most n a.X b.X) fun v10 => (
    cdO (decide (c.X ≤ v10)) (
     bdO (fiducialref09_least n a.Y b.Y) fun v13 => (
     cdO (decide (c.Y ≥ v13)) (
      bdO (fiducialref09_most n a.Y b.Y) fun v16 => (
      some (decide (c.Y ≤ v16))
      )
     ) (
      some (false)
     )
     )
    ) (
     some (false)
    )
    )
   ) (
    some (false)
   )
   )
  )
  )
 )
 )

def fiducialref09_next (n : Nat) (l : List api_Pix) (i : Int) : Option (Int) :=
 bdO (loopO (α := Int × Int) (β := Int) n (fun again20 (at_1, k_2) => (
  cdO (decide (k_2 < (l.length : Int))) (
   bdO (fiducialref09_first n l k_2) fun v22 => (
   cdO ((v22 : Int) != k_2) (
    again20 (at_1, wrapF .i64 (k_2 + 1))
   ) (
    cdO ((k_2 : Int) == i) (
     again20 (at_1, wrapF .i64 (k_2 + 1))
    ) (
     cdO ((at_1 : Int) == i) (
      again20 (k_2, wrapF .i64 (k_2 + 1))
     ) (
      gdO (inR i l.length) (
      gdO (inR at_1 l.length) (
      gdO (inR k_2 l.length) (
      bdO (fiducialref09_Orient n (gt l i) (gt l at_1) (gt l k_2)) fun v30 => (
      cdO (decide (v30 < 0)) (
       again20 (k_2, wrapF .i64 (k_2 + 1))
      ) (
       cdO ((v30 : Int) == 0) (
        bdO (fiducialref09_Between n (gt l i) (gt l k_2) (gt l at_1)) fun v34 => (
        cdO v34 (
         again20 (k_2, wrapF .i64 (k_2 + 1))
        ) (
         again20 (at_1, wrapF .i64 (k_2 + 1))
        )
        )
       ) (
        again20 (at_1, wrapF .i64 (k_2 + 1))
       )
      )
      )
      )
      )
      )
     )
    )
   )
   )
  ) (
   some (at_1)
  )
 )) (i, 0)) fun at_19 => (
  some (at_19)
 )

def fiducialref09_Hull (n : Nat) (l : List api_Pix) : Option (List Int × Int) :=
 cdO (((l.length : Int) : Int) == 0) (
  some (([], 1))
 ) (
  cdO (decide ((l.length : Int) > 1024)) (
   some (([], 3))
  ) (
   bdO (fiducialref09_All n l) fun v3 => (
   cdO (!v3) (
    some (([], 2))
   ) (
    bdO (loopO (α := Int × Int) (β := Int) n (fun again15 (start_6, i_7) => (
     cdO (decide (i_7 < (l.length : Int))) (
      gdO (inR i_7 l.length) (
      gdO (inR start_6 l.length) (
      bdO (fiducialref09_before n (gt l i_7) (gt l start_6)) fun v19 => (
      cdO v19 (
       again15 (i_7, wrapF .i64 (i_7 + 1))
      ) (
       again15 (start_6, wrapF .i64 (i_7 + 1))
      )
      )
      )
      )
     ) (
      some (start_6)
     )
    )) (0, 0)) fun start_14 => (
     bdO (fiducialref09_next n l start_14) fun v25 => (
     bdO (loopO (α := List Int × Int) (β := List Int) n (fun again35 (out_27, i_28) => (
      cdO ((i_28 : Int) != start_14) (
       gdO (decide ((out_27.length + 1) * 8 ≤ 140737488355328)) (
       gdO (decide (out_27.length + 1 ≤ 4611686018427387904)) (
       bdO (fiducialref09_next n l i_28) fun v39 => (
       again35 (out_27 ++ [i_28], v39)
       )
       )
       )
      ) (
       some (out_27)
      )
     )) ([start_14], v25)) fun out_34 => (
      some ((out_34, 0))
     )
     )
    )
   )
   )
  )
 )

def slices_Equal_int_int (n : Nat) (s1 : List Int) (s2 : List Int) : Option (Bool) :=
 cdO (((s1.length : Int) : Int) != (s2.length : Int)) (
  some (false)
 ) (
  bdO (loopO (α := Int) (β := Sum (Unit) (Bool)) n (fun again7 x_2 => (
   cdO (decide (x_2 < (s1.length : Int))) (
    gdO (inR x_2 s1.length) (
    gdO (inR x_2 s2.length) (
    cdO (((gt s1 x_2) : Int) != (gt s2 x_2)) (
     some (Sum.inr (false))
    ) (
     again7 (wrapF .i64 (x_2 + 1))
    )
    )
    )
   ) (
    some (Sum.inl ())
   )
  )) 0) fun o12 => (
   match o12 with
   | .inl _ => (
    some (true)
   )
   | .inr (r0) => (
    some r0
   ))
 )

def fiduciallaw09_PredicateHull (n : Nat) (l : List api_Pix) : Option (Bool) :=
 bdO (fiduciallaw09_known n) fun v1 => (
 cdO (!v1) (
  some (false)
 ) (
  cdO (decide ((l.length : Int) > 40)) (
   some (true)
  ) (
   bdO (predicate_Hull n l) fun v5 => (
   bdO (fiducialref09_Hull n l) fun v7 => (
   cdO ((v5.2 : Int) != v7.2) (
    some (false)
   ) (
    bdO (slices_Equal_int_int n v5.1 v7.1) fun v10 => (
    cdO (!v10) (
     some (false)
    ) (
     bdO (loopO (α := Int) (β := Sum (Unit) (Bool)) n (fun again43 x_13 => (
      cdO (decide (x_13 < (v5.1.length : Int))) (
       gdO (inR x_13 v5.1.length) (
       gdO (inR (gt v5.1 x_13) l.length) (
       gdO (!decide ((v5.1.length : Int) = 0)) (
       gdO (inR ((wrapF .i64 (x_13 + 1)).tmod (v5.1.length : Int)) v5.1.length) (
       gdO (inR (gt v5.1 ((wrapF .i64 (x_13 + 1)).tmod (v5.1.length : Int))) l.length) (
       bdO (loopO (α := Int) (β := Sum (Unit) (Bool)) n (fun again57 x_50 => (
        cdO (decide (x_50 < (l.length : Int))) (
         gdO (inR x_50 l.length) (
         cdO (decide ((v5.1.length : Int) > 1)) (
          bdO (fiducialref09_Orient n (gt l (gt v5.1 x_13)) (gt l (gt v5.1 ((wrapF .i64 (x_13 + 1)).tmod (v5.1.length : Int)))) (gt l x_50)) fun v61 => (
          cdO (decide (v61 < 0)) (
           some (Sum.inr (false))
          ) (
           again57 (wrapF .i64 (x_50 + 1))
          )
          )
         ) (
          again57 (wrapF .i64 (x_50 + 1))
         )
         )
        ) (
         some (Sum.inl ())
        )
       )) 0) fun o64 => (
        match o64 with
        | .inl _ => (
         cdO (decide ((v5.1.length : Int) > 2)) (
          gdO (inR ((wrapF .i64 (x_13 + 2)).tmod (v5.1.length : Int)) v5.1.length) (
          gdO (inR (gt v5.1 ((wrapF .i64 (x_13 + 2)).tmod (v5.1.length : Int))) l.length) (
          bdO (fiducialref09_Orient n (gt l (gt v5.1 x_13)) (gt l (gt v5.1 ((wrapF .i64 (x_13 + 1)).tmod (v5.1.length : Int)))) (gt l (gt v5.1 ((wrapF .i64 (x_13 + 2)).tmod (v5.1.length : Int))))) fun v70 => (
          cdO ((v70 : Int) != 1) (
           some (Sum.inr (false))
          ) (
           again43 (wrapF .i64 (x_13 + 1))
          )
          )
          )
          )
         ) (
          again43 (wrapF .i64 (x_13 + 1))
         )
        )
        | .inr (r0) => (
         some (Sum.inr (r0))
        ))
       )
       )
       )
       )
       )
      ) (
       some (Sum.inl ())
      )
     )) 0) fun o73 => (
      match o73 with
      | .inl _ => (
       some (true)
      )
      | .inr (r0) => (
       some r0
      ))
    )
    )
   )
   )
   )
  )
 )
 )
end Go.L
