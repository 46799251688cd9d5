/- The program's functions as plain Lean programs, printed by a program. -/
import Derived.Test.YtkhmlbchphhokaaGreatSc11nbaanidm
import Derived.Test.YtkhmlbchphhokaaGreatScUbombodhh
set_option linter.all false
set_option maxRecDepth 100000
set_option maxHeartbeats 4000000
namespace Go.L
open Go Go.Eng
structure api_Field where
 Width : Int
 Height : Int
 V : List Int
 deriving Inhabited

structure A2 (α : Type) where
 e0 : α
 e1 : α
 deriving Inhabited

structure api_Int where
 Negative : Bool
 Groups : List Int
 deriving Inhabited

structure api_Rat where
 Num : api_Int
 Den : api_Int
 deriving Inhabited

structure api_Range where
 Low : api_Rat
 High : api_Rat
 deriving Inhabited

structure api_Grid where
 X0 : Int
 Y0 : Int
 Step : Int
 Width : Int
 Height : Int
 Z : List Int
 deriving Inhabited

structure api_Banded where
 Grid : api_Grid
 Err : List Int
 deriving Inhabited

def A2_2_int.c (x : A2 Int) : List AV := [.at (.int .i64 x.e0), .at (.int .i64 x.e1)]
theorem A2_2_int.len : ∀ x, (A2_2_int.c x).length = 2 := fun _ => rfl
theorem A2_2_int.pure : ∀ x, idsOfL (A2_2_int.c x) = [] := fun _ => rfl

def api_Field.c (x : api_Field) : List AV := [.at (.int .i64 x.Width), .at (.int .i64 x.Height), slT (iC .i64) x.V]
theorem api_Field.len : ∀ x, (api_Field.c x).length = 3 := fun _ => rfl
theorem api_Field.pure : ∀ x, idsOfL (api_Field.c x) = [] := fun _ => rfl

def api_Range.c (x : api_Range) : List AV := [.at (.bool x.Low.Num.Negative), slT (iC .u32) x.Low.Num.Groups, .at (.bool x.Low.Den.Negative), slT (iC .u32) x.Low.Den.Groups, .at (.bool x.High.Num.Negative), slT (iC .u32) x.High.Num.Groups, .at (.bool x.High.Den.Negative), slT (iC .u32) x.High.Den.Groups]
theorem api_Range.len : ∀ x, (api_Range.c x).length = 8 := fun _ => rfl
theorem api_Range.pure : ∀ x, idsOfL (api_Range.c x) = [] := fun _ => rfl

def api_Banded.c (x : api_Banded) : List AV := [.at (.int .i64 x.Grid.X0), .at (.int .i64 x.Grid.Y0), .at (.int .i64 x.Grid.Step), .at (.int .i64 x.Grid.Width), .at (.int .i64 x.Grid.Height), slT (iC .i64) x.Grid.Z, slT (iC .i64) x.Err]
theorem api_Banded.len : ∀ x, (api_Banded.c x).length = 7 := fun _ => rfl
theorem api_Banded.pure : ∀ x, idsOfL (api_Banded.c x) = [] := fun _ => rfl

def api_Grid.c (x : api_Grid) : List AV := [.at (.int .i64 x.X0), .at (.int .i64 x.Y0), .at (.int .i64 x.Step), .at (.int .i64 x.Width), .at (.int .i64 x.Height), slT (iC .i64) x.Z]
theorem api_Grid.len : ∀ x, (api_Grid.c x).length = 6 := fun _ => rfl
theorem api_Grid.pure : ∀ x, idsOfL (api_Grid.c x) = [] := fun _ => rfl

def api_Rat.c (x : api_Rat) : List AV := [.at (.bool x.Num.Negative), slT (iC .u32) x.Num.Groups, .at (.bool x.Den.Negative), slT (iC .u32) x.Den.Groups]
theorem api_Rat.len : ∀ x, (api_Rat.c x).length = 4 := fun _ => rfl
theorem api_Rat.pure : ∀ x, idsOfL (api_Rat.c x) = [] := fun _ => rfl

def api_Int.c (x : api_Int) : List AV := [.at (.bool x.Negative), slT (iC .u32) x.Groups]
theorem api_Int.len : ∀ x, (api_Int.c x).length = 2 := fun _ => rfl
theorem api_Int.pure : ∀ x, idsOfL (api_Int.c x) = [] := fun _ => rfl

abbrev nbs (p w : Int) : List (A2 Int) := [A2.mk (wrapF .i64 ((p.tmod w) - 1)) (wrapF .i64 (p.tdiv w)), A2.mk (wrapF .i64 ((p.tmod w) + 1)) (wrapF .i64 (p.tdiv w)), A2.mk (p.tmod w) (wrapF .i64 ((wrapF .i64 (p.tdiv w)) - 1)), A2.mk (p.tmod w) (wrapF .i64 ((wrapF .i64 (p.tdiv w)) + 1))]
def fiduciallaw46_line (n : Nat) (l : List Int) : Option (api_Field) :=
 some (api_Field.mk (l.length : Int) 1 l)

def depth_Check_1 (n : Nat) (n' : Int) : Option (Bool) :=
 cdO (decide (n' < (-1))) (
  some (true)
 ) (
  some (decide (n' > 1048576))
 )

def slices_IndexFunc_int_int_of_depth_Check_1 (n : Nat) (s : List Int) : Option (Int) :=
 bdO (loopO (α := Int) (β := Sum (Unit) (Int)) n (fun again7 x_1 => (
  cdO (decide (x_1 < (s.length : Int))) (
   gdO (inR x_1 s.length) (
   bdO (depth_Check_1 n (gt s x_1)) fun v10 => (
   cdO v10 (
    some (Sum.inr (x_1))
   ) (
    again7 (wrapF .i64 (x_1 + 1))
   )
   )
   )
  ) (
   some (Sum.inl ())
  )
 )) 0) fun o13 => (
  match o13 with
  | .inl _ => (
   some ((-1))
  )
  | .inr (r0) => (
   some r0
  ))

def slices_ContainsFunc_int_int_of_depth_Check_1 (n : Nat) (s : List Int) : Option (Bool) :=
 bdO (slices_IndexFunc_int_int_of_depth_Check_1 n s) fun v1 => (
 some (decide (v1 ≥ 0))
 )

def depth_Check (n : Nat) (f : api_Field) : Option (Int) :=
 cdO (decide (f.Width < 1)) (
  some (1)
 ) (
  cdO (decide (f.Width > 64)) (
   some (1)
  ) (
   cdO (decide (f.Height < 1)) (
    some (1)
   ) (
    cdO (decide (f.Height > 64)) (
     some (1)
    ) (
     cdO (((f.V.length : Int) : Int) != (wrapF .i64 (f.Width * f.Height))) (
      some (1)
     ) (
      bdO (slices_ContainsFunc_int_int_of_depth_Check_1 n f.V) fun v6 => (
      cdO v6 (
       some (1)
      ) (
       some (0)
      )
      )
     )
    )
   )
  )
 )

def depth_alike (n : Nat) (f : api_Field) (g : api_Field) : Option (Bool) :=
 cdO ((f.Width : Int) == g.Width) (
  some ((f.Height : Int) == g.Height)
 ) (
  some (false)
 )

def math_bits_Mul64 (n : Nat) (x' : Int) (y : Int) : Option (Int × Int) :=
 bdO (some (wrapF .u64 ((bitO .and .u64 x' 4294967295) * (bitO .and .u64 y 4294967295)))) fun w1 => (
 bdO (some (wrapF .u64 ((wrapF .u64 ((x'.fdiv (2 ^ 32)) * (bitO .and .u64 y 4294967295))) + (w1.fdiv (2 ^ 32))))) fun w3 => (
 bdO (some (wrapF .u64 ((bitO .and .u64 w3 4294967295) + (wrapF .u64 ((bitO .and .u64 x' 4294967295) * (y.fdiv (2 ^ 32))))))) fun w5 => (
 bdO (some (wrapF .u64 ((wrapF .u64 ((wrapF .u64 ((x'.fdiv (2 ^ 32)) * (y.fdiv (2 ^ 32)))) + (w3.fdiv (2 ^ 32)))) + (w5.fdiv (2 ^ 32))))) fun w7 => (
 some ((w7, wrapF .u64 (x' * y)))
 )
 )
 )
 )

def math_bits_Mul (n : Nat) (x' : Int) (y : Int) : Option (Int × Int) :=
 bdO (math_bits_Mul64 n x' y) fun v1 => (
 some ((v1.1, v1.2))
 )

def slices_Repeat_int_int_w (n : Nat) (x' : List Int) (count : Int) : Option (List Int) :=
 gdO (!(decide (count < 0))) (
 bdO (math_bits_Mul n (wrapF .u64 (x'.length : Int)) (wrapF .u64 count)) fun v24 => (
 gdO (!(decide (v24.1 > 0))) (
 gdO (!(decide (v24.2 > 9223372036854775807))) (
 gdO (decide (0 ≤ wrapF .i64 v24.2)) (
 gdO (decide ((8 : Int) * (wrapF .i64 v24.2) ≤ 281474976710656)) (
 gdO (decide (wrapF .i64 v24.2 ≤ 9223372036854775807)) (
 bdO (loopO (α := List Int × Int) (β := List Int) n (fun again37 (newslice_31, n_32) => (
  cdO (decide (n_32 < (newslice_31.length : Int))) (
   gdO (inS n_32 (newslice_31.length : Int) newslice_31.length) (
   gdO (inS 0 n_32 newslice_31.length) (
   again37 (overT newslice_31 n_32.toNat ((newslice_31.take n_32.toNat).take (Nat.min n_32.toNat (newslice_31.length - n_32.toNat))), wrapF .i64 (n_32 + ((Nat.min n_32.toNat (newslice_31.length - n_32.toNat) : Nat) : Int)))
   )
   )
  ) (
   some (newslice_31)
  )
 )) (overT (List.replicate (wrapF .i64 v24.2).toNat ((0 : Int) : Int)) 0 ((x'.take x'.length).take (Nat.min x'.length (List.replicate (wrapF .i64 v24.2).toNat ((0 : Int) : Int)).length)), ((Nat.min x'.length (List.replicate (wrapF .i64 v24.2).toNat ((0 : Int) : Int)).length : Nat) : Int))) fun newslice_36 => (
  some (newslice_36)
 )
 )
 )
 )
 )
 )
 )
 )

def depth_blank_w (n : Nat) (f : api_Field) : Option (Int × Int × List Int) :=
 bdO (slices_Repeat_int_int_w n [((-1) : Int)] (wrapF .i64 (f.Width * f.Height))) fun v6 => (
 some ((f.Width, f.Height, v6))
 )

def depth_Consistent (n : Nat) (left : api_Field) (right : api_Field) (most : Int) : Option (api_Field × Int) :=
 bdO (depth_Check n left) fun v1 => (
 cdO ((v1 : Int) != 0) (
  some ((api_Field.mk 0 0 [], 1))
 ) (
  bdO (depth_Check n right) fun v4 => (
  cdO ((v4 : Int) != 0) (
   some ((api_Field.mk 0 0 [], 1))
  ) (
   bdO (depth_alike n left right) fun v8 => (
   cdO (!v8) (
    some ((api_Field.mk 0 0 [], 4))
   ) (
    cdO (decide (most < 0)) (
     some ((api_Field.mk 0 0 [], 2))
    ) (
     bdO (depth_blank_w n left) fun v14 => (
     bdO (loopO (α := List Int × Int) (β := List Int) n (fun again30 (out_16, x_17) => (
      cdO (decide (x_17 < (left.V.length : Int))) (
       gdO (inR x_17 left.V.length) (
       cdO (decide ((gt left.V x_17) < 0)) (
        again30 (out_16, wrapF .i64 (x_17 + 1))
       ) (
        gdO (!decide (left.Width = 0)) (
        cdO (decide ((gt left.V x_17) > (x_17.tmod left.Width))) (
         again30 (out_16, wrapF .i64 (x_17 + 1))
        ) (
         gdO (inR (wrapF .i64 (x_17 - (gt left.V x_17))) right.V.length) (
         cdO (decide ((gt right.V (wrapF .i64 (x_17 - (gt left.V x_17)))) ≥ 0)) (
          cdO (decide ((mx (wrapF .i64 ((gt left.V x_17) - (gt right.V (wrapF .i64 (x_17 - (gt left.V x_17)))))) (wrapF .i64 ((gt right.V (wrapF .i64 (x_17 - (gt left.V x_17)))) - (gt left.V x_17)))) ≤ most)) (
           gdO (inR x_17 out_16.length) (
           again30 (out_16.set x_17.toNat (gt left.V x_17), wrapF .i64 (x_17 + 1))
           )
          ) (
           again30 (out_16, wrapF .i64 (x_17 + 1))
          )
         ) (
          again30 (out_16, wrapF .i64 (x_17 + 1))
         )
         )
        )
        )
       )
       )
      ) (
       some (out_16)
      )
     )) (v14.2.2, 0)) fun out_29 => (
      some ((api_Field.mk v14.1 v14.2.1 out_29, 0))
     )
     )
    )
   )
   )
  )
  )
 )
 )

def depth_Turn (n : Nat) (left : api_Field) : Option (api_Field × Int) :=
 bdO (depth_Check n left) fun v1 => (
 cdO ((v1 : Int) != 0) (
  some ((api_Field.mk 0 0 [], 1))
 ) (
  bdO (depth_blank_w n left) fun v5 => (
  bdO (loopO (α := List Int × Int) (β := List Int) n (fun again17 (out_7, x_8) => (
   cdO (decide (x_8 < (left.V.length : Int))) (
    gdO (inR x_8 left.V.length) (
    cdO (decide ((gt left.V x_8) ≥ 0)) (
     gdO (!decide (left.Width = 0)) (
     cdO (decide ((gt left.V x_8) ≤ (x_8.tmod left.Width))) (
      gdO (inR (wrapF .i64 (x_8 - (gt left.V x_8))) out_7.length) (
      again17 (out_7.set (wrapF .i64 (x_8 - (gt left.V x_8))).toNat (mx (gt out_7 (wrapF .i64 (x_8 - (gt left.V x_8)))) (gt left.V x_8)), wrapF .i64 (x_8 + 1))
      )
     ) (
      again17 (out_7, wrapF .i64 (x_8 + 1))
     )
     )
    ) (
     again17 (out_7, wrapF .i64 (x_8 + 1))
    )
    )
   ) (
    some (out_7)
   )
  )) (v5.2.2, 0)) fun out_16 => (
   some ((api_Field.mk v5.1 v5.2.1 out_16, 0))
  )
  )
 )
 )

def depth_optics (n : Nat) (focal : Int) (base : Int) : Option (Int) :=
 cdO (decide (focal < 1)) (
  some (2)
 ) (
  cdO (decide (focal > 1048576)) (
   some (2)
  ) (
   cdO (decide (base < 1)) (
    some (2)
   ) (
    cdO (decide (base > 1048576)) (
     some (2)
    ) (
     some (0)
    )
   )
  )
 )

def integer_split (n : Nat) (n' : Int) : Option (List Int) :=
 bdO (loopO (α := Int × List Int) (β := List Int) n (fun again7 (n_1, g_2) => (
  cdO (decide (n_1 > 0)) (
   gdO (decide ((g_2.length + 1) * 4 ≤ 140737488355328)) (
   gdO (decide (g_2.length + 1 ≤ 4611686018427387904)) (
   again7 (wrapF .u64 (n_1.tdiv 1000000000), g_2 ++ [wrapF .u32 (n_1.tmod 1000000000)])
   )
   )
  ) (
   some (g_2)
  )
 )) (n', [])) fun g_6 => (
  some (g_6)
 )

def integer_trim (n : Nat) (g : List Int) : Option (List Int) :=
 bdO (loopO (α := List Int) (β := List Int) n (fun again7 g_1 => (
  cdO (decide ((g_1.length : Int) > 0)) (
   gdO (inR (wrapF .i64 ((g_1.length : Int) - 1)) g_1.length) (
   cdO (((gt g_1 (wrapF .i64 ((g_1.length : Int) - 1))) : Int) == 0) (
    gdO (inS 0 (wrapF .i64 ((g_1.length : Int) - 1)) g_1.length) (
    again7 ((g_1.drop (0 : Int).toNat).take ((wrapF .i64 ((g_1.length : Int) - 1)).toNat - (0 : Int).toNat))
    )
   ) (
    some (g_1)
   )
   )
  ) (
   some (g_1)
  )
 )) g) fun g_6 => (
  some (g_6)
 )

def integer_made (n : Nat) (negative : Bool) (g : List Int) : Option (api_Int) :=
 bdO (integer_trim n g) fun v1 => (
 cdO (((v1.length : Int) : Int) == 0) (
  some (api_Int.mk false [])
 ) (
  some (api_Int.mk negative v1)
 )
 )

def integer_Of (n : Nat) (n' : Int) : Option (api_Int) :=
 cdO (decide (n' < 0)) (
  bdO (integer_split n (wrapF .u64 (0 - (wrapF .u64 n')))) fun v2 => (
  bdO (integer_made n true v2) fun v4 => (
  some (v4)
  )
  )
 ) (
  bdO (integer_split n (wrapF .u64 n')) fun v6 => (
  bdO (integer_made n false v6) fun v8 => (
  some (v8)
  )
  )
 )

def integer_Valid_1 (n : Nat) (g : Int) : Option (Bool) :=
 some (decide (g ≥ 1000000000))

def slices_IndexFunc_uint32_uint32_of_integer_Valid_1 (n : Nat) (s : List Int) : Option (Int) :=
 bdO (loopO (α := Int) (β := Sum (Unit) (Int)) n (fun again7 x_1 => (
  cdO (decide (x_1 < (s.length : Int))) (
   gdO (inR x_1 s.length) (
   bdO (integer_Valid_1 n (gt s x_1)) fun v10 => (
   cdO v10 (
    some (Sum.inr (x_1))
   ) (
    again7 (wrapF .i64 (x_1 + 1))
   )
   )
   )
  ) (
   some (Sum.inl ())
  )
 )) 0) fun o13 => (
  match o13 with
  | .inl _ => (
   some ((-1))
  )
  | .inr (r0) => (
   some r0
  ))

def slices_ContainsFunc_uint32_uint32_of_integer_Valid_1 (n : Nat) (s : List Int) : Option (Bool) :=
 bdO (slices_IndexFunc_uint32_uint32_of_integer_Valid_1 n s) fun v1 => (
 some (decide (v1 ≥ 0))
 )

def integer_Valid (n : Nat) (x' : api_Int) : Option (Bool) :=
 cdO (((x'.Groups.length : Int) : Int) == 0) (
  some (!x'.Negative)
 ) (
  gdO (inR (wrapF .i64 ((x'.Groups.length : Int) - 1)) x'.Groups.length) (
  cdO (((gt x'.Groups (wrapF .i64 ((x'.Groups.length : Int) - 1))) : Int) != 0) (
   bdO (slices_ContainsFunc_uint32_uint32_of_integer_Valid_1 n x'.Groups) fun v4 => (
   some (!v4)
   )
  ) (
   some (false)
  )
  )
 )

def fraction_counted (n : Nat) (n' : api_Int) : Option (api_Int) :=
 bdO (integer_Valid n n') fun v1 => (
 cdO v1 (
  some (n')
 ) (
  bdO (integer_Of n 0) fun v4 => (
  some (v4)
  )
 )
 )

def integer_groups (n : Nat) (x' : api_Int) : Option (List Int) :=
 bdO (integer_Valid n x') fun v1 => (
 cdO (!v1) (
  some ([])
 ) (
  some (x'.Groups)
 )
 )

def integer_Sign (n : Nat) (x' : api_Int) : Option (Int) :=
 bdO (integer_groups n x') fun v1 => (
 cdO (((v1.length : Int) : Int) == 0) (
  some (0)
 ) (
  cdO x'.Negative (
   some ((-1))
  ) (
   some (1)
  )
 )
 )

def slices_Clone_uint32_uint32 (n : Nat) (s : List Int) : Option (List Int) :=
 gdO (decide ((0 + s.length) * 4 ≤ 140737488355328)) (
 gdO (decide (0 + s.length ≤ 4611686018427387904)) (
 some (s)
 )
 )

def integer_Neg (n : Nat) (x' : api_Int) : Option (api_Int) :=
 bdO (integer_groups n x') fun v1 => (
 bdO (slices_Clone_uint32_uint32 n v1) fun v3 => (
 bdO (integer_made n (!x'.Negative) v3) fun v5 => (
 some (v5)
 )
 )
 )




def integer_times (n : Nat) (a : List Int) (b : List Int) : Option (List Int) :=
 gdO (decide (0 ≤ wrapF .i64 ((a.length : Int) + (b.length : Int)))) (
 gdO (decide ((4 : Int) * (wrapF .i64 ((a.length : Int) + (b.length : Int))) ≤ 281474976710656)) (
 gdO (decide (wrapF .i64 ((a.length : Int) + (b.length : Int)) ≤ 9223372036854775807)) (
 bdO (loopO (α := List Int × Int) (β := List Int) n (fun again25 (out_4, x_5) => (
  cdO (decide (x_5 < (a.length : Int))) (
   gdO (inR x_5 a.length) (
   bdO (loopO (α := List Int × Int × Int) (β := List Int × Int) n (fun again36 (out_28, carry_29, x_30) => (
    cdO (decide (x_30 < (b.length : Int))) (
     gdO (inR x_30 b.length) (
     gdO (inR (wrapF .i64 (x_5 + x_30)) out_28.length) (
     again36 (out_28.set (wrapF .i64 (x_5 + x_30)).toNat (wrapF .u32 ((wrapF .u64 ((wrapF .u64 ((wrapF .u64 (gt out_28 (wrapF .i64 (x_5 + x_30)))) + (wrapF .u64 ((wrapF .u64 (gt a x_5)) * (wrapF .u64 (gt b x_30)))))) + carry_29)).tmod 1000000000)), wrapF .u64 ((wrapF .u64 ((wrapF .u64 ((wrapF .u64 (gt out_28 (wrapF .i64 (x_5 + x_30)))) + (wrapF .u64 ((wrapF .u64 (gt a x_5)) * (wrapF .u64 (gt b x_30)))))) + carry_29)).tdiv 1000000000), wrapF .i64 (x_30 + 1))
     )
     )
    ) (
     some ((out_28, carry_29))
    )
   )) (out_4, 0, 0)) fun o40 => (
    match o40 with
    | (out_34, carry_35) => (
     gdO (inR (wrapF .i64 (x_5 + (b.length : Int))) out_34.length) (
     again25 (out_34.set (wrapF .i64 (x_5 + (b.length : Int))).toNat (wrapF .u32 carry_35), wrapF .i64 (x_5 + 1))
     )
    ))
   )
  ) (
   some (out_4)
  )
 )) (List.replicate (wrapF .i64 ((a.length : Int) + (b.length : Int))).toNat ((0 : Int) : Int), 0)) fun out_24 => (
  bdO (integer_trim n out_24) fun v47 => (
  some (v47)
  )
 )
 )
 )
 )

def integer_trim_w (n : Nat) (g : List Int) : Option (List Int) :=
 bdO (loopO (α := List Int) (β := List Int) n (fun again22 g_16 => (
  cdO (decide ((g_16.length : Int) > 0)) (
   gdO (inR (wrapF .i64 ((g_16.length : Int) - 1)) g_16.length) (
   cdO (((gt g_16 (wrapF .i64 ((g_16.length : Int) - 1))) : Int) == 0) (
    gdO (inS 0 (wrapF .i64 ((g_16.length : Int) - 1)) g_16.length) (
    again22 (g_16.take (wrapF .i64 ((g_16.length : Int) - 1)).toNat)
    )
   ) (
    some (g_16)
   )
   )
  ) (
   some (g_16)
  )
 )) g) fun g_21 => (
  some (g_21)
 )

def integer_times_w (n : Nat) (a : List Int) (b : List Int) : Option (List Int) :=
 gdO (decide (0 ≤ wrapF .i64 ((a.length : Int) + (b.length : Int)))) (
 gdO (decide ((4 : Int) * (wrapF .i64 ((a.length : Int) + (b.length : Int))) ≤ 281474976710656)) (
 gdO (decide (wrapF .i64 ((a.length : Int) + (b.length : Int)) ≤ 9223372036854775807)) (
 bdO (loopO (α := List Int × Int) (β := List Int) n (fun again74 (out_53, x_54) => (
  cdO (decide (x_54 < (a.length : Int))) (
   gdO (inR x_54 a.length) (
   bdO (loopO (α := List Int × Int × Int) (β := List Int × Int) n (fun again85 (out_77, carry_78, x_79) => (
    cdO (decide (x_79 < (b.length : Int))) (
     gdO (inR x_79 b.length) (
     gdO (inR (wrapF .i64 (x_54 + x_79)) out_77.length) (
     again85 (out_77.set (wrapF .i64 (x_54 + x_79)).toNat (wrapF .u32 ((wrapF .u64 ((wrapF .u64 ((wrapF .u64 (gt out_77 (wrapF .i64 (x_54 + x_79)))) + (wrapF .u64 ((wrapF .u64 (gt a x_54)) * (wrapF .u64 (gt b x_79)))))) + carry_78)).tmod 1000000000)), wrapF .u64 ((wrapF .u64 ((wrapF .u64 ((wrapF .u64 (gt out_77 (wrapF .i64 (x_54 + x_79)))) + (wrapF .u64 ((wrapF .u64 (gt a x_54)) * (wrapF .u64 (gt b x_79)))))) + carry_78)).tdiv 1000000000), wrapF .i64 (x_79 + 1))
     )
     )
    ) (
     some ((out_77, carry_78))
    )
   )) (out_53, 0, 0)) fun o89 => (
    match o89 with
    | (out_83, carry_84) => (
     gdO (inR (wrapF .i64 (x_54 + (b.length : Int))) out_83.length) (
     again74 (out_83.set (wrapF .i64 (x_54 + (b.length : Int))).toNat (wrapF .u32 carry_84), wrapF .i64 (x_54 + 1))
     )
    ))
   )
  ) (
   some (out_53)
  )
 )) (List.replicate (wrapF .i64 ((a.length : Int) + (b.length : Int))).toNat ((0 : Int) : Int), 0)) fun out_73 => (
  bdO (integer_trim_w n out_73) fun v96 => (
  some (v96)
  )
 )
 )
 )
 )

def integer_at (n : Nat) (g : List Int) (i : Int) : Option (Int) :=
 cdO (decide (i < (g.length : Int))) (
  gdO (inR i g.length) (
  some ((gt g i))
  )
 ) (
  some (0)
 )

def integer_long (n : Nat) (a : List Int) (b : List Int) : Option (List Int × List Int) :=
 gdO (inR (wrapF .i64 ((b.length : Int) - 1)) b.length) (
 gdO (!decide (wrapF .u64 ((wrapF .u64 (gt b (wrapF .i64 ((b.length : Int) - 1)))) + 1) = 0)) (
 bdO (integer_times_w n a [wrapF .u32 (wrapF .u64 ((1000000000 : Int).tdiv (wrapF .u64 ((wrapF .u64 (gt b (wrapF .i64 ((b.length : Int) - 1)))) + 1))))]) fun v3 => (
 bdO (integer_times_w n b [wrapF .u32 (wrapF .u64 ((1000000000 : Int).tdiv (wrapF .u64 ((wrapF .u64 (gt b (wrapF .i64 ((b.length : Int) - 1)))) + 1))))]) fun v5 => (
 gdO (decide ((v3.length + 1) * 4 ≤ 140737488355328)) (
 gdO (decide (v3.length + 1 ≤ 4611686018427387904)) (
 bdO (α := List Int) (
  cdO (decide (((v3 ++ [(0 : Int)]).length : Int) ≤ (a.length : Int))) (
   gdO (decide (((v3 ++ [(0 : Int)]).length + 1) * 4 ≤ 140737488355328)) (
   gdO (decide ((v3 ++ [(0 : Int)]).length + 1 ≤ 4611686018427387904)) (
   some ((v3 ++ [(0 : Int)]) ++ [(0 : Int)])
   )
   )
  ) (
   some (v3 ++ [(0 : Int)])
  )
 ) fun u_9 => (
  gdO (decide (0 ≤ wrapF .i64 ((u_9.length : Int) - (v5.length : Int)))) (
  gdO (decide ((4 : Int) * (wrapF .i64 ((u_9.length : Int) - (v5.length : Int))) ≤ 281474976710656)) (
  gdO (decide (wrapF .i64 ((u_9.length : Int) - (v5.length : Int)) ≤ 9223372036854775807)) (
  bdO (loopO (α := List Int × List Int × Int) (β := List Int × List Int) n (fun again129 (q_19, u_20, j_21) => (
   cdO (decide (j_21 ≥ 0)) (
    bdO (integer_at n u_20 (wrapF .i64 (j_21 + (v5.length : Int)))) fun v132 => (
    gdO (inR (wrapF .i64 ((wrapF .i64 (j_21 + (v5.length : Int))) - 1)) u_20.length) (
    gdO (inR (wrapF .i64 ((v5.length : Int) - 1)) v5.length) (
    gdO (!decide (wrapF .u64 (gt v5 (wrapF .i64 ((v5.length : Int) - 1))) = 0)) (
    bdO (loopO (α := Int × Int) (β := Int) n (fun again165 (guess_156, rest_157) => (
     cdO (decide (guess_156 ≥ 1000000000)) (
      cdO (decide ((wrapF .u64 (rest_157 + (wrapF .u64 (gt v5 (wrapF .i64 ((v5.length : Int) - 1)))))) ≥ 1000000000)) (
       some (wrapF .u64 (guess_156 - 1))
      ) (
       again165 (wrapF .u64 (guess_156 - 1), wrapF .u64 (rest_157 + (wrapF .u64 (gt v5 (wrapF .i64 ((v5.length : Int) - 1))))))
      )
     ) (
      gdO (inR (wrapF .i64 ((v5.length : Int) - 2)) v5.length) (
      gdO (inR (wrapF .i64 ((wrapF .i64 (j_21 + (v5.length : Int))) - 2)) u_20.length) (
      cdO (decide ((wrapF .u64 (guess_156 * (wrapF .u64 (gt v5 (wrapF .i64 ((v5.length : Int) - 2)))))) > (wrapF .u64 ((wrapF .u64 (rest_157 * 1000000000)) + (wrapF .u64 (gt u_20 (wrapF .i64 ((wrapF .i64 (j_21 + (v5.length : Int))) - 2)))))))) (
       cdO (decide ((wrapF .u64 (rest_157 + (wrapF .u64 (gt v5 (wrapF .i64 ((v5.length : Int) - 1)))))) ≥ 1000000000)) (
        some (wrapF .u64 (guess_156 - 1))
       ) (
        again165 (wrapF .u64 (guess_156 - 1), wrapF .u64 (rest_157 + (wrapF .u64 (gt v5 (wrapF .i64 ((v5.length : Int) - 1))))))
       )
      ) (
       some (guess_156)
      )
      )
      )
     )
    )) (wrapF .u64 ((wrapF .u64 ((wrapF .u64 ((wrapF .u64 v132) * 1000000000)) + (wrapF .u64 (gt u_20 (wrapF .i64 ((wrapF .i64 (j_21 + (v5.length : Int))) - 1)))))).tdiv (wrapF .u64 (gt v5 (wrapF .i64 ((v5.length : Int) - 1))))), (wrapF .u64 ((wrapF .u64 ((wrapF .u64 v132) * 1000000000)) + (wrapF .u64 (gt u_20 (wrapF .i64 ((wrapF .i64 (j_21 + (v5.length : Int))) - 1)))))).tmod (wrapF .u64 (gt v5 (wrapF .i64 ((v5.length : Int) - 1)))))) fun guess_164 => (
     bdO (loopO (α := List Int × Int × Int × Int) (β := List Int × Int × Int) n (fun again205 (u_194, borrow_195, carry_196, x_197) => (
      cdO (decide (x_197 < (v5.length : Int))) (
       gdO (inR x_197 v5.length) (
       gdO (inR (wrapF .i64 (x_197 + j_21)) u_194.length) (
       cdO (decide ((wrapF .i64 ((wrapF .i64 ((wrapF .i64 (gt u_194 (wrapF .i64 (x_197 + j_21)))) - borrow_195)) - (wrapF .i64 ((wrapF .u64 ((wrapF .u64 (guess_164 * (wrapF .u64 (gt v5 x_197)))) + carry_196)).tmod 1000000000)))) < 0)) (
        again205 (u_194.set (wrapF .i64 (x_197 + j_21)).toNat (wrapF .u32 (wrapF .i64 ((wrapF .i64 ((wrapF .i64 ((wrapF .i64 (gt u_194 (wrapF .i64 (x_197 + j_21)))) - borrow_195)) - (wrapF .i64 ((wrapF .u64 ((wrapF .u64 (guess_164 * (wrapF .u64 (gt v5 x_197)))) + carry_196)).tmod 1000000000)))) + 1000000000))), 1, wrapF .u64 ((wrapF .u64 ((wrapF .u64 (guess_164 * (wrapF .u64 (gt v5 x_197)))) + carry_196)).tdiv 1000000000), wrapF .i64 (x_197 + 1))
       ) (
        again205 (u_194.set (wrapF .i64 (x_197 + j_21)).toNat (wrapF .u32 (wrapF .i64 ((wrapF .i64 ((wrapF .i64 (gt u_194 (wrapF .i64 (x_197 + j_21)))) - borrow_195)) - (wrapF .i64 ((wrapF .u64 ((wrapF .u64 (guess_164 * (wrapF .u64 (gt v5 x_197)))) + carry_196)).tmod 1000000000))))), 0, wrapF .u64 ((wrapF .u64 ((wrapF .u64 (guess_164 * (wrapF .u64 (gt v5 x_197)))) + carry_196)).tdiv 1000000000), wrapF .i64 (x_197 + 1))
       )
       )
       )
      ) (
       some ((u_194, borrow_195, carry_196))
      )
     )) (u_20, 0, 0, 0)) fun o210 => (
      match o210 with
      | (u_202, borrow_203, carry_204) => (
       gdO (inR (wrapF .i64 (j_21 + (v5.length : Int))) u_202.length) (
       cdO (decide ((wrapF .i64 ((wrapF .i64 ((wrapF .i64 (gt u_202 (wrapF .i64 (j_21 + (v5.length : Int))))) - borrow_203)) - (wrapF .i64 carry_204))) < 0)) (
        bdO (loopO (α := List Int × Int × Int) (β := List Int × Int) n (fun again224 (u_215, c_216, x_217) => (
         cdO (decide (x_217 < (v5.length : Int))) (
          gdO (inR (wrapF .i64 (x_217 + j_21)) u_215.length) (
          gdO (inR x_217 v5.length) (
          cdO (decide ((wrapF .u32 ((wrapF .u32 ((gt u_215 (wrapF .i64 (x_217 + j_21))) + (gt v5 x_217))) + c_216)) ≥ 1000000000)) (
           again224 (u_215.set (wrapF .i64 (x_217 + j_21)).toNat (wrapF .u32 ((wrapF .u32 ((wrapF .u32 ((gt u_215 (wrapF .i64 (x_217 + j_21))) + (gt v5 x_217))) + c_216)) - 1000000000)), 1, wrapF .i64 (x_217 + 1))
          ) (
           again224 (u_215.set (wrapF .i64 (x_217 + j_21)).toNat (wrapF .u32 ((wrapF .u32 ((gt u_215 (wrapF .i64 (x_217 + j_21))) + (gt v5 x_217))) + c_216)), 0, wrapF .i64 (x_217 + 1))
          )
          )
          )
         ) (
          some ((u_215, c_216))
         )
        )) (u_202.set (wrapF .i64 (j_21 + (v5.length : Int))).toNat (wrapF .u32 (wrapF .i64 ((wrapF .i64 ((wrapF .i64 ((wrapF .i64 (gt u_202 (wrapF .i64 (j_21 + (v5.length : Int))))) - borrow_203)) - (wrapF .i64 carry_204))) + 1000000000))), 0, 0)) fun o229 => (
         match o229 with
         | (u_222, c_223) => (
          gdO (inR (wrapF .i64 (j_21 + (v5.length : Int))) u_222.length) (
          gdO (inR j_21 q_19.length) (
          again129 (q_19.set j_21.toNat (wrapF .u32 (wrapF .u64 (guess_164 - 1))), u_222.set (wrapF .i64 (j_21 + (v5.length : Int))).toNat ((wrapF .u32 ((gt u_222 (wrapF .i64 (j_21 + (v5.length : Int)))) + c_223)).tmod 1000000000), wrapF .i64 (j_21 - 1))
          )
          )
         ))
       ) (
        gdO (inR j_21 q_19.length) (
        again129 (q_19.set j_21.toNat (wrapF .u32 guess_164), u_202.set (wrapF .i64 (j_21 + (v5.length : Int))).toNat (wrapF .u32 (wrapF .i64 ((wrapF .i64 ((wrapF .i64 (gt u_202 (wrapF .i64 (j_21 + (v5.length : Int))))) - borrow_203)) - (wrapF .i64 carry_204)))), wrapF .i64 (j_21 - 1))
        )
       )
       )
      ))
    )
    )
    )
    )
    )
   ) (
    some ((q_19, u_20))
   )
  )) (List.replicate (wrapF .i64 ((u_9.length : Int) - (v5.length : Int))).toNat ((0 : Int) : Int), u_9, wrapF .i64 ((wrapF .i64 ((u_9.length : Int) - (v5.length : Int))) - 1))) fun o235 => (
   match o235 with
   | (q_127, u_128) => (
    gdO (inS 0 (v5.length : Int) u_128.length) (
    bdO (integer_trim n (u_128.take (v5.length : Int).toNat)) fun v239 => (
    bdO (integer_short n v239 (wrapF .u32 (wrapF .u64 ((1000000000 : Int).tdiv (wrapF .u64 ((wrapF .u64 (gt b (wrapF .i64 ((b.length : Int) - 1)))) + 1)))))) fun v241 => (
    bdO (integer_trim n q_127) fun v243 => (
    some ((v243, v241.1))
    )
    )
    )
    )
   ))
  )
  )
  )
 )
 )
 )
 )
 )
 )
 )

def integer_over (n : Nat) (a : List Int) (b : List Int) : Option (List Int × List Int) :=
 bdO (integer_compare n a b) fun v1 => (
 cdO (decide (v1 < 0)) (
  some (([], a))
 ) (
  bdO (integer_word n a) fun v4 => (
  bdO (integer_word n b) fun v6 => (
  cdO v4.2 (
   cdO v6.2 (
    gdO (!decide (v6.1 = 0)) (
    bdO (integer_split n (wrapF .u64 (v4.1.tdiv v6.1))) fun v11 => (
    bdO (integer_split n (v4.1.tmod v6.1)) fun v13 => (
    some ((v11, v13))
    )
    )
    )
   ) (
    cdO (((b.length : Int) : Int) == 1) (
     gdO (inR 0 b.length) (
     bdO (integer_short n a (gt b 0)) fun v17 => (
     bdO (integer_split n (wrapF .u64 v17.2)) fun v19 => (
     some ((v17.1, v19))
     )
     )
     )
    ) (
     bdO (integer_long n a b) fun v21 => (
     some ((v21.1, v21.2))
     )
    )
   )
  ) (
   cdO (((b.length : Int) : Int) == 1) (
    gdO (inR 0 b.length) (
    bdO (integer_short n a (gt b 0)) fun v25 => (
    bdO (integer_split n (wrapF .u64 v25.2)) fun v27 => (
    some ((v25.1, v27))
    )
    )
    )
   ) (
    bdO (integer_long n a b) fun v29 => (
    some ((v29.1, v29.2))
    )
   )
  )
  )
  )
 )
 )

def integer_Gcd (n : Nat) (x' : api_Int) (y : api_Int) : Option (api_Int) :=
 bdO (integer_groups n x') fun v1 => (
 bdO (integer_groups n y) fun v3 => (
 bdO (loopO (α := List Int × List Int) (β := Sum (List Int) (api_Int)) n (fun again34 (a_5, b_6) => (
  cdO (decide ((b_6.length : Int) > 0)) (
   bdO (integer_word n a_5) fun v36 => (
   bdO (integer_word n b_6) fun v38 => (
   cdO v36.2 (
    cdO v38.2 (
     bdO (loopO (α := Int × Int) (β := Int) n (fun again47 (m_42, n_43) => (
      cdO (decide (n_43 > 0)) (
       gdO (!decide (n_43 = 0)) (
       again47 (n_43, m_42.tmod n_43)
       )
      ) (
       some (m_42)
      )
     )) (v36.1, v38.1)) fun m_46 => (
      bdO (integer_split n m_46) fun v53 => (
      bdO (integer_made n false v53) fun v55 => (
      some (Sum.inr (v55))
      )
      )
     )
    ) (
     bdO (integer_over n a_5 b_6) fun v57 => (
     again34 (b_6, v57.2)
     )
    )
   ) (
    bdO (integer_over n a_5 b_6) fun v59 => (
    again34 (b_6, v59.2)
    )
   )
   )
   )
  ) (
   some (Sum.inl a_5)
  )
 )) (v1, v3)) fun o61 => (
  match o61 with
  | .inl a_33 => (
   bdO (slices_Clone_uint32_uint32 n a_33) fun v64 => (
   bdO (integer_made n false v64) fun v66 => (
   some (v66)
   )
   )
  )
  | .inr (r0) => (
   some r0
  ))
 )
 )

def integer_plus (n : Nat) (a : List Int) (b : List Int) : Option (List Int) :=
 gdO (decide (0 ≤ wrapF .i64 ((mx (a.length : Int) (b.length : Int)) + 1))) (
 gdO (decide ((4 : Int) * (wrapF .i64 ((mx (a.length : Int) (b.length : Int)) + 1)) ≤ 281474976710656)) (
 gdO (decide (wrapF .i64 ((mx (a.length : Int) (b.length : Int)) + 1) ≤ 9223372036854775807)) (
 bdO (loopO (α := List Int × Int × Int) (β := List Int) n (fun again16 (out_4, carry_5, x_6) => (
  cdO (decide (x_6 < ((List.replicate (wrapF .i64 ((mx (a.length : Int) (b.length : Int)) + 1)).toNat ((0 : Int) : Int)).length : Int))) (
   bdO (integer_at n a x_6) fun v18 => (
   bdO (integer_at n b x_6) fun v20 => (
   cdO (decide ((wrapF .u32 ((wrapF .u32 (v18 + v20)) + carry_5)) ≥ 1000000000)) (
    gdO (inR x_6 out_4.length) (
    again16 (out_4.set x_6.toNat (wrapF .u32 ((wrapF .u32 ((wrapF .u32 (v18 + v20)) + carry_5)) - 1000000000)), 1, wrapF .i64 (x_6 + 1))
    )
   ) (
    gdO (inR x_6 out_4.length) (
    again16 (out_4.set x_6.toNat (wrapF .u32 ((wrapF .u32 (v18 + v20)) + carry_5)), 0, wrapF .i64 (x_6 + 1))
    )
   )
   )
   )
  ) (
   some (out_4)
  )
 )) (List.replicate (wrapF .i64 ((mx (a.length : Int) (b.length : Int)) + 1)).toNat ((0 : Int) : Int), 0, 0)) fun out_15 => (
  bdO (integer_trim n out_15) fun v28 => (
  some (v28)
  )
 )
 )
 )
 )

def integer_minus (n : Nat) (a : List Int) (b : List Int) : Option (List Int) :=
 gdO (decide (0 ≤ (a.length : Int))) (
 gdO (decide ((4 : Int) * (a.length : Int) ≤ 281474976710656)) (
 gdO (decide ((a.length : Int) ≤ 9223372036854775807)) (
 bdO (loopO (α := List Int × Int × Int) (β := List Int) n (fun again15 (out_4, borrow_5, x_6) => (
  cdO (decide (x_6 < ((List.replicate (a.length : Int).toNat ((0 : Int) : Int)).length : Int))) (
   bdO (integer_at n b x_6) fun v17 => (
   gdO (inR x_6 a.length) (
   cdO (decide ((gt a x_6) < (wrapF .u32 (v17 + borrow_5)))) (
    gdO (inR x_6 out_4.length) (
    again15 (out_4.set x_6.toNat (wrapF .u32 ((wrapF .u32 ((gt a x_6) + 1000000000)) - (wrapF .u32 (v17 + borrow_5)))), 1, wrapF .i64 (x_6 + 1))
    )
   ) (
    gdO (inR x_6 out_4.length) (
    again15 (out_4.set x_6.toNat (wrapF .u32 ((gt a x_6) - (wrapF .u32 (v17 + borrow_5)))), 0, wrapF .i64 (x_6 + 1))
    )
   )
   )
   )
  ) (
   some (out_4)
  )
 )) (List.replicate (a.length : Int).toNat ((0 : Int) : Int), 0, 0)) fun out_14 => (
  bdO (integer_trim n out_14) fun v26 => (
  some (v26)
  )
 )
 )
 )
 )

def integer_Divide (n : Nat) (x' : api_Int) (y : api_Int) : Option (api_Int × api_Int × Int) :=
 bdO (integer_groups n x') fun v1 => (
 bdO (integer_groups n y) fun v3 => (
 cdO (((v3.length : Int) : Int) == 0) (
  some ((api_Int.mk false [], api_Int.mk false [], 14))
 ) (
  bdO (integer_over n v1 v3) fun v6 => (
  bdO (slices_Clone_uint32_uint32 n v6.2) fun v8 => (
  cdO (decide ((v8.length : Int) > 0)) (
   cdO (x'.Negative != y.Negative) (
    bdO (integer_plus n v6.1 [(1 : Int)]) fun v12 => (
    bdO (integer_minus n v3 v8) fun v14 => (
    bdO (integer_made n true v12) fun v16 => (
    bdO (integer_made n y.Negative v14) fun v18 => (
    some ((v16, v18, 0))
    )
    )
    )
    )
   ) (
    bdO (integer_made n false v6.1) fun v20 => (
    bdO (integer_made n y.Negative v8) fun v22 => (
    some ((v20, v22, 0))
    )
    )
   )
  ) (
   bdO (integer_made n (x'.Negative != y.Negative) v6.1) fun v24 => (
   bdO (integer_made n y.Negative v8) fun v26 => (
   some ((v24, v26, 0))
   )
   )
  )
  )
  )
 )
 )
 )

def fraction_reduced (n : Nat) (num : api_Int) (den : api_Int) : Option (api_Rat) :=
 bdO (integer_Sign n den) fun v1 => (
 cdO (decide (v1 < 0)) (
  bdO (integer_Neg n num) fun v4 => (
  bdO (integer_Neg n den) fun v6 => (
  bdO (integer_Gcd n v4 v6) fun v8 => (
  bdO (integer_Divide n v4 v8) fun v10 => (
  bdO (integer_Divide n v6 v8) fun v12 => (
  some (api_Rat.mk v10.1 v12.1)
  )
  )
  )
  )
  )
 ) (
  bdO (integer_Gcd n num den) fun v14 => (
  bdO (integer_Divide n num v14) fun v16 => (
  bdO (integer_Divide n den v14) fun v18 => (
  some (api_Rat.mk v16.1 v18.1)
  )
  )
  )
 )
 )

def fraction_New (n : Nat) (num : api_Int) (den : api_Int) : Option (api_Rat × Int) :=
 bdO (fraction_counted n num) fun v1 => (
 bdO (fraction_counted n den) fun v3 => (
 bdO (integer_Sign n v3) fun v5 => (
 cdO ((v5 : Int) == 0) (
  some ((api_Rat.mk (api_Int.mk false []) (api_Int.mk false []), 14))
 ) (
  bdO (fraction_reduced n v1 v3) fun v8 => (
  some ((v8, 0))
  )
 )
 )
 )
 )

def fraction_Of (n : Nat) (n' : Int) (d : Int) : Option (api_Rat × Int) :=
 bdO (integer_Of n n') fun v1 => (
 bdO (integer_Of n d) fun v3 => (
 bdO (fraction_New n v1 v3) fun v5 => (
 some ((v5.1, v5.2))
 )
 )
 )

def cmp_isNaN_int (n : Nat) (x' : Int) : Option (Bool) :=
 some ((x' : Int) != x')

def cmp_Compare_int (n : Nat) (x' : Int) (y : Int) : Option (Int) :=
 bdO (cmp_isNaN_int n x') fun v1 => (
 bdO (cmp_isNaN_int n y) fun v3 => (
 cdO v1 (
  cdO v3 (
   some (0)
  ) (
   some ((-1))
  )
 ) (
  cdO v3 (
   some (1)
  ) (
   cdO (decide (x' < y)) (
    some ((-1))
   ) (
    cdO (decide (x' > y)) (
     some (1)
    ) (
     some (0)
    )
   )
  )
 )
 )
 )

def integer_Compare (n : Nat) (x' : api_Int) (y : api_Int) : Option (Int) :=
 bdO (integer_Sign n x') fun v1 => (
 bdO (integer_Sign n y) fun v3 => (
 cdO ((v1 : Int) != v3) (
  bdO (cmp_Compare_int n v1 v3) fun v6 => (
  some (v6)
  )
 ) (
  bdO (integer_groups n x') fun v8 => (
  bdO (integer_groups n y) fun v10 => (
  bdO (integer_compare n v8 v10) fun v12 => (
  cdO x'.Negative (
   some (wrapF .i64 (0 - v12))
  ) (
   some (v12)
  )
  )
  )
  )
 )
 )
 )

def fraction_Valid (n : Nat) (x' : api_Rat) : Option (Bool) :=
 bdO (integer_Valid n x'.Num) fun v1 => (
 cdO (!v1) (
  some (false)
 ) (
  bdO (integer_Valid n x'.Den) fun v4 => (
  cdO (!v4) (
   some (false)
  ) (
   bdO (integer_Sign n x'.Den) fun v7 => (
   cdO (decide (v7 ≤ 0)) (
    some (false)
   ) (
    bdO (integer_Gcd n x'.Num x'.Den) fun v10 => (
    bdO (integer_Of n 1) fun v12 => (
    bdO (integer_Compare n v10 v12) fun v14 => (
    some ((v14 : Int) == 0)
    )
    )
    )
   )
   )
  )
  )
 )
 )

def fraction_copied (n : Nat) (x' : api_Rat) : Option (api_Rat) :=
 bdO (integer_Neg n x'.Num) fun v1 => (
 bdO (integer_Neg n v1) fun v3 => (
 bdO (integer_Neg n x'.Den) fun v5 => (
 bdO (integer_Neg n v5) fun v7 => (
 some (api_Rat.mk v3 v7)
 )
 )
 )
 )

def fraction_Whole (n : Nat) (n' : Int) : Option (api_Rat) :=
 bdO (integer_Of n n') fun v1 => (
 bdO (integer_Of n 1) fun v3 => (
 some (api_Rat.mk v1 v3)
 )
 )

def fraction_Value (n : Nat) (x' : api_Rat) : Option (api_Rat) :=
 bdO (fraction_Valid n x') fun v1 => (
 cdO v1 (
  bdO (fraction_copied n x') fun v4 => (
  some (v4)
  )
 ) (
  bdO (fraction_Whole n 0) fun v6 => (
  some (v6)
  )
 )
 )

def integer_Mul (n : Nat) (x' : api_Int) (y : api_Int) : Option (api_Int) :=
 bdO (integer_groups n x') fun v1 => (
 bdO (integer_groups n y) fun v3 => (
 bdO (integer_times n v1 v3) fun v5 => (
 bdO (integer_made n (x'.Negative != y.Negative) v5) fun v7 => (
 some (v7)
 )
 )
 )
 )

def integer_sum (n : Nat) (negative : Bool) (a : List Int) (other : Bool) (b : List Int) : Option (api_Int) :=
 cdO (negative == other) (
  bdO (integer_plus n a b) fun v2 => (
  bdO (integer_made n negative v2) fun v4 => (
  some (v4)
  )
  )
 ) (
  bdO (integer_compare n a b) fun v6 => (
  cdO (decide (v6 ≥ 0)) (
   bdO (integer_minus n a b) fun v9 => (
   bdO (integer_made n negative v9) fun v11 => (
   some (v11)
   )
   )
  ) (
   bdO (integer_minus n b a) fun v13 => (
   bdO (integer_made n other v13) fun v15 => (
   some (v15)
   )
   )
  )
  )
 )

def integer_Add (n : Nat) (x' : api_Int) (y : api_Int) : Option (api_Int) :=
 bdO (integer_groups n x') fun v1 => (
 bdO (integer_groups n y) fun v3 => (
 bdO (integer_sum n x'.Negative v1 y.Negative v3) fun v5 => (
 some (v5)
 )
 )
 )

def fraction_Add (n : Nat) (x' : api_Rat) (y : api_Rat) : Option (api_Rat) :=
 bdO (fraction_Value n x') fun v1 => (
 bdO (fraction_Value n y) fun v3 => (
 bdO (integer_Mul n v1.Num v3.Den) fun v5 => (
 bdO (integer_Mul n v3.Num v1.Den) fun v7 => (
 bdO (integer_Add n v5 v7) fun v9 => (
 bdO (integer_Mul n v1.Den v3.Den) fun v11 => (
 bdO (fraction_reduced n v9 v11) fun v13 => (
 some (v13)
 )
 )
 )
 )
 )
 )
 )

def fraction_Floor (n : Nat) (x' : api_Rat) : Option (api_Int) :=
 bdO (fraction_Value n x') fun v1 => (
 bdO (integer_Divide n v1.Num v1.Den) fun v3 => (
 some (v3.1)
 )
 )

def integer_Small (n : Nat) (x' : api_Int) : Option (Int × Bool) :=
 bdO (integer_groups n x') fun g => (
 gdO (decide (g.length ≤ 2)) (
 gdO (digB g) (
 some ((smallE x'.Negative g, true))
 )
 )
 )

def depth_Depths (n : Nat) (f : api_Field) (focal : Int) (base : Int) : Option (api_Field × Int) :=
 bdO (depth_Check n f) fun v1 => (
 cdO ((v1 : Int) != 0) (
  some ((api_Field.mk 0 0 [], 1))
 ) (
  bdO (depth_optics n focal base) fun v5 => (
  cdO ((v5 : Int) != 0) (
   some ((api_Field.mk 0 0 [], v5))
  ) (
   bdO (depth_blank_w n f) fun v9 => (
   bdO (fraction_Of n 1 2) fun v11 => (
   bdO (loopO (α := List Int × Int) (β := List Int) n (fun again30 (out_13, x_14) => (
    cdO (decide (x_14 < (f.V.length : Int))) (
     gdO (inR x_14 f.V.length) (
     cdO (decide ((gt f.V x_14) < 1)) (
      again30 (out_13, wrapF .i64 (x_14 + 1))
     ) (
      bdO (fraction_Of n (wrapF .i64 (focal * base)) (wrapF .i64 (64 * (gt f.V x_14)))) fun v36 => (
      bdO (fraction_Add n v36.1 v11.1) fun v38 => (
      bdO (fraction_Floor n v38) fun v40 => (
      bdO (integer_Small n v40) fun v42 => (
      gdO (inR x_14 out_13.length) (
      again30 (out_13.set x_14.toNat (mn v42.1 1048576), wrapF .i64 (x_14 + 1))
      )
      )
      )
      )
      )
     )
     )
    ) (
     some (out_13)
    )
   )) (v9.2.2, 0)) fun out_29 => (
    some ((api_Field.mk v9.1 v9.2.1 out_29, 0))
   )
   )
   )
  )
  )
 )
 )

def depth_Interval (n : Nat) (focal : Int) (base : Int) (d : Int) : Option (api_Range × Int) :=
 bdO (depth_optics n focal base) fun v1 => (
 cdO ((v1 : Int) != 0) (
  some ((api_Range.mk (api_Rat.mk (api_Int.mk false []) (api_Int.mk false [])) (api_Rat.mk (api_Int.mk false []) (api_Int.mk false [])), v1))
 ) (
  cdO (decide (d < 1)) (
   some ((api_Range.mk (api_Rat.mk (api_Int.mk false []) (api_Int.mk false [])) (api_Rat.mk (api_Int.mk false []) (api_Int.mk false [])), 15))
  ) (
   cdO (decide (d > 1048576)) (
    some ((api_Range.mk (api_Rat.mk (api_Int.mk false []) (api_Int.mk false [])) (api_Rat.mk (api_Int.mk false []) (api_Int.mk false [])), 15))
   ) (
    bdO (fraction_Of n (wrapF .i64 (focal * base)) (wrapF .i64 (32 * (wrapF .i64 ((wrapF .i64 (2 * d)) + 1))))) fun v8 => (
    bdO (fraction_Of n (wrapF .i64 (focal * base)) (wrapF .i64 (32 * (wrapF .i64 ((wrapF .i64 (2 * d)) - 1))))) fun v10 => (
    some ((api_Range.mk v8.1 v10.1, 0))
    )
    )
   )
  )
 )
 )

def slices_Equal_int_int (n : Nat) (s1 : List Int) (s2 : List Int) : Option (Bool) :=
 cdO (((s1.length : Int) : Int) != (s2.length : Int)) (
  some (false)
 ) (
  bdO (loopO (α := Int) (β := Sum (Unit) (Bool)) n (fun again7 x_2 => (
   cdO (decide (x_2 < (s1.length : Int))) (
    gdO (inR x_2 s1.length) (
    gdO (inR x_2 s2.length) (
    cdO (((gt s1 x_2) : Int) != (gt s2 x_2)) (
     some (Sum.inr (false))
    ) (
     again7 (wrapF .i64 (x_2 + 1))
    )
    )
    )
   ) (
    some (Sum.inl ())
   )
  )) 0) fun o12 => (
   match o12 with
   | .inl _ => (
    some (true)
   )
   | .inr (r0) => (
    some r0
   ))
 )

def fiduciallaw46_Same (n : Nat) (a : api_Field) (b : api_Field) : Option (Bool) :=
 cdO ((a.Width : Int) == b.Width) (
  cdO ((a.Height : Int) == b.Height) (
   bdO (slices_Equal_int_int n a.V b.V) fun v3 => (
   some (v3)
   )
  ) (
   some (false)
  )
 ) (
  some (false)
 )

def fiducialref01_made (n : Nat) (negative : Bool) (l : List Int) : Option (api_Int) :=
 bdO (loopO (α := Int) (β := Int) n (fun again6 n_1 => (
  cdO (decide (n_1 > 0)) (
   gdO (inR (wrapF .i64 (n_1 - 1)) l.length) (
   cdO (((gt l (wrapF .i64 (n_1 - 1))) : Int) == 0) (
    again6 (wrapF .i64 (n_1 - 1))
   ) (
    some (n_1)
   )
   )
  ) (
   some (n_1)
  )
 )) (l.length : Int)) fun n_5 => (
  cdO negative (
   gdO (inS 0 n_5 l.length) (
   gdO (decide ((0 + ((l.drop (0 : Int).toNat).take (n_5.toNat - (0 : Int).toNat)).length) * 4 ≤ 140737488355328)) (
   gdO (decide (0 + ((l.drop (0 : Int).toNat).take (n_5.toNat - (0 : Int).toNat)).length ≤ 4611686018427387904)) (
   some (api_Int.mk (decide (n_5 > 0)) ((l.drop (0 : Int).toNat).take (n_5.toNat - (0 : Int).toNat)))
   )
   )
   )
  ) (
   gdO (inS 0 n_5 l.length) (
   gdO (decide ((0 + ((l.drop (0 : Int).toNat).take (n_5.toNat - (0 : Int).toNat)).length) * 4 ≤ 140737488355328)) (
   gdO (decide (0 + ((l.drop (0 : Int).toNat).take (n_5.toNat - (0 : Int).toNat)).length ≤ 4611686018427387904)) (
   some (api_Int.mk false ((l.drop (0 : Int).toNat).take (n_5.toNat - (0 : Int).toNat)))
   )
   )
   )
  )
 )

def fiducialref01_Of (n : Nat) (n' : Int) : Option (api_Int) :=
 cdO (decide (n' < 0)) (
  bdO (loopO (α := Int × List Int) (β := List Int) n (fun again8 (u_2, l_3) => (
   cdO (decide (u_2 > 0)) (
    gdO (decide ((l_3.length + 1) * 4 ≤ 140737488355328)) (
    gdO (decide (l_3.length + 1 ≤ 4611686018427387904)) (
    again8 (wrapF .u64 (u_2.tdiv 1000000000), l_3 ++ [wrapF .u32 (u_2.tmod 1000000000)])
    )
    )
   ) (
    some (l_3)
   )
  )) (wrapF .u64 ((wrapF .u64 (wrapF .i64 (0 - (wrapF .i64 (n' + 1))))) + 1), [])) fun l_7 => (
   bdO (fiducialref01_made n true l_7) fun v15 => (
   some (v15)
   )
  )
 ) (
  bdO (loopO (α := Int × List Int) (β := List Int) n (fun again23 (u_17, l_18) => (
   cdO (decide (u_17 > 0)) (
    gdO (decide ((l_18.length + 1) * 4 ≤ 140737488355328)) (
    gdO (decide (l_18.length + 1 ≤ 4611686018427387904)) (
    again23 (wrapF .u64 (u_17.tdiv 1000000000), l_18 ++ [wrapF .u32 (u_17.tmod 1000000000)])
    )
    )
   ) (
    some (l_18)
   )
  )) (wrapF .u64 n', [])) fun l_22 => (
   bdO (fiducialref01_made n false l_22) fun v30 => (
   some (v30)
   )
  )
 )

def fiducialref02_whole (n : Nat) (n' : Int) : Option (api_Int) :=
 bdO (fiducialref01_Of n n') fun v1 => (
 some (v1)
 )

def fiducialref02_Whole (n : Nat) (n' : Int) : Option (api_Rat) :=
 bdO (fiducialref02_whole n n') fun v1 => (
 bdO (fiducialref02_whole n 1) fun v3 => (
 some (api_Rat.mk v1 v3)
 )
 )

def fiducialref01_Valid (n : Nat) (x' : api_Int) : Option (Bool) :=
 bdO (loopO (α := Int) (β := Sum (Unit) (Bool)) n (fun again5 i_1 => (
  cdO (decide (i_1 < (x'.Groups.length : Int))) (
   gdO (inR i_1 x'.Groups.length) (
   cdO (decide ((gt x'.Groups i_1) ≥ 1000000000)) (
    some (Sum.inr (false))
   ) (
    again5 (wrapF .i64 (i_1 + 1))
   )
   )
  ) (
   some (Sum.inl ())
  )
 )) 0) fun o9 => (
  match o9 with
  | .inl _ => (
   cdO (((x'.Groups.length : Int) : Int) == 0) (
    some (!x'.Negative)
   ) (
    gdO (inR (wrapF .i64 ((x'.Groups.length : Int) - 1)) x'.Groups.length) (
    some (((gt x'.Groups (wrapF .i64 ((x'.Groups.length : Int) - 1))) : Int) != 0)
    )
   )
  )
  | .inr (r0) => (
   some r0
  ))

def fiducialref01_Value (n : Nat) (x' : api_Int) : Option (api_Int) :=
 bdO (fiducialref01_Valid n x') fun v1 => (
 cdO (!v1) (
  some (api_Int.mk false [])
 ) (
  gdO (decide ((0 + x'.Groups.length) * 4 ≤ 140737488355328)) (
  gdO (decide (0 + x'.Groups.length ≤ 4611686018427387904)) (
  some (x')
  )
  )
 )
 )

def fiducialref01_Sign (n : Nat) (x' : api_Int) : Option (Int) :=
 bdO (fiducialref01_Value n x') fun v1 => (
 cdO (((v1.Groups.length : Int) : Int) == 0) (
  some (0)
 ) (
  cdO v1.Negative (
   some ((-1))
  ) (
   some (1)
  )
 )
 )

def fiducialref01_short (n : Nat) (a : List Int) (d : Int) : Option (List Int × Int) :=
 gdO (decide (0 ≤ (a.length : Int))) (
 gdO (decide ((4 : Int) * (a.length : Int) ≤ 281474976710656)) (
 gdO (decide ((a.length : Int) ≤ 9223372036854775807)) (
 bdO (loopO (α := List Int × Int × Int) (β := List Int × Int) n (fun again13 (q_4, rest_5, i_6) => (
  cdO (decide (i_6 ≥ 0)) (
   gdO (inR i_6 a.length) (
   gdO (!decide (d = 0)) (
   gdO (inR i_6 q_4.length) (
   again13 (q_4.set i_6.toNat (wrapF .u32 (wrapF .u64 ((wrapF .u64 ((wrapF .u64 (rest_5 * 1000000000)) + (wrapF .u64 (gt a i_6)))).tdiv d))), (wrapF .u64 ((wrapF .u64 (rest_5 * 1000000000)) + (wrapF .u64 (gt a i_6)))).tmod d, wrapF .i64 (i_6 - 1))
   )
   )
   )
  ) (
   some ((q_4, rest_5))
  )
 )) (List.replicate (a.length : Int).toNat ((0 : Int) : Int), 0, wrapF .i64 ((a.length : Int) - 1))) fun o18 => (
  match o18 with
  | (q_11, rest_12) => (
   bdO (fiducialref01_made n false q_11) fun v21 => (
   some ((v21.Groups, rest_12))
   )
  ))
 )
 )
 )

def fiducialref01_size (n : Nat) (a : List Int) (b : List Int) : Option (Int) :=
 cdO (((a.length : Int) : Int) != (b.length : Int)) (
  cdO (decide ((a.length : Int) < (b.length : Int))) (
   some ((-1))
  ) (
   some (1)
  )
 ) (
  bdO (loopO (α := Int) (β := Sum (Unit) (Int)) n (fun again9 i_3 => (
   cdO (decide (i_3 ≥ 0)) (
    gdO (inR i_3 a.length) (
    gdO (inR i_3 b.length) (
    cdO (decide ((gt a i_3) < (gt b i_3))) (
     some (Sum.inr ((-1)))
    ) (
     cdO (decide ((gt a i_3) > (gt b i_3))) (
      some (Sum.inr (1))
     ) (
      again9 (wrapF .i64 (i_3 - 1))
     )
    )
    )
    )
   ) (
    some (Sum.inl ())
   )
  )) (wrapF .i64 ((a.length : Int) - 1))) fun o15 => (
   match o15 with
   | .inl _ => (
    some (0)
   )
   | .inr (r0) => (
    some r0
   ))
 )

def fiducialref01_scaled (n : Nat) (a : List Int) (d : Int) : Option (List Int) :=
 bdO (loopO (α := List Int × Int × Int) (β := List Int × Int) n (fun again10 (out_1, carry_2, i_3) => (
  cdO (decide (i_3 < (a.length : Int))) (
   gdO (inR i_3 a.length) (
   gdO (decide ((out_1.length + 1) * 4 ≤ 140737488355328)) (
   gdO (decide (out_1.length + 1 ≤ 4611686018427387904)) (
   again10 (out_1 ++ [wrapF .u32 ((wrapF .u64 ((wrapF .u64 ((wrapF .u64 (gt a i_3)) * d)) + carry_2)).tmod 1000000000)], wrapF .u64 ((wrapF .u64 ((wrapF .u64 ((wrapF .u64 (gt a i_3)) * d)) + carry_2)).tdiv 1000000000), wrapF .i64 (i_3 + 1))
   )
   )
   )
  ) (
   some ((out_1, carry_2))
  )
 )) ([], 0, 0)) fun o15 => (
  match o15 with
  | (out_8, carry_9) => (
   gdO (decide ((out_8.length + 1) * 4 ≤ 140737488355328)) (
   gdO (decide (out_8.length + 1 ≤ 4611686018427387904)) (
   bdO (fiducialref01_made n false (out_8 ++ [wrapF .u32 carry_9])) fun v20 => (
   some (v20.Groups)
   )
   )
   )
  ))

def fiducialref01_shifted (n : Nat) (a : List Int) (d : Int) : Option (List Int) :=
 gdO (decide ((1 + a.length) * 4 ≤ 140737488355328)) (
 gdO (decide (1 + a.length ≤ 4611686018427387904)) (
 bdO (fiducialref01_made n false ([d] ++ a)) fun v3 => (
 some (v3.Groups)
 )
 )
 )

def fiducialref01_group (n : Nat) (l : List Int) (i : Int) : Option (Int) :=
 cdO (decide (i < (l.length : Int))) (
  gdO (inR i l.length) (
  some (wrapF .u64 (gt l i))
  )
 ) (
  some (0)
 )

def fiducialref01_minus (n : Nat) (a : List Int) (b : List Int) : Option (List Int) :=
 bdO (loopO (α := List Int × Int × Int) (β := List Int) n (fun again12 (out_1, borrow_2, i_3) => (
  cdO (decide (i_3 < (a.length : Int))) (
   bdO (fiducialref01_group n a i_3) fun v14 => (
   bdO (fiducialref01_group n b i_3) fun v16 => (
   gdO (decide ((out_1.length + 1) * 4 ≤ 140737488355328)) (
   gdO (decide (out_1.length + 1 ≤ 4611686018427387904)) (
   again12 (out_1 ++ [wrapF .u32 ((wrapF .u64 ((wrapF .u64 ((wrapF .u64 (1000000000 + v14)) - v16)) - borrow_2)).tmod 1000000000)], wrapF .u64 (1 - (wrapF .u64 ((wrapF .u64 ((wrapF .u64 ((wrapF .u64 (1000000000 + v14)) - v16)) - borrow_2)).tdiv 1000000000))), wrapF .i64 (i_3 + 1))
   )
   )
   )
   )
  ) (
   some (out_1)
  )
 )) ([], 0, 0)) fun out_11 => (
  bdO (fiducialref01_made n false out_11) fun v23 => (
  some (v23.Groups)
  )
 )

def fiducialref01_parts (n : Nat) (a : List Int) (b : List Int) : Option (List Int × List Int) :=
 cdO (((b.length : Int) : Int) == 1) (
  gdO (inR 0 b.length) (
  bdO (fiducialref01_short n a (wrapF .u64 (gt b 0))) fun v3 => (
  bdO (fiducialref01_made n false [(wrapF .u32 v3.2)]) fun v5 => (
  some ((v3.1, v5.Groups))
  )
  )
  )
 ) (
  bdO (fiducialref01_size n a b) fun v7 => (
  cdO (decide (v7 < 0)) (
   some (([], a))
  ) (
   gdO (inR (wrapF .i64 ((b.length : Int) - 1)) b.length) (
   gdO (!decide (wrapF .u64 ((wrapF .u64 (gt b (wrapF .i64 ((b.length : Int) - 1)))) + 1) = 0)) (
   bdO (fiducialref01_scaled n a (wrapF .u64 ((1000000000 : Int).tdiv (wrapF .u64 ((wrapF .u64 (gt b (wrapF .i64 ((b.length : Int) - 1)))) + 1))))) fun v12 => (
   bdO (fiducialref01_scaled n b (wrapF .u64 ((1000000000 : Int).tdiv (wrapF .u64 ((wrapF .u64 (gt b (wrapF .i64 ((b.length : Int) - 1)))) + 1))))) fun v14 => (
   gdO (inS (wrapF .i64 ((wrapF .i64 ((v12.length : Int) - (b.length : Int))) + 1)) (v12.length : Int) v12.length) (
   bdO (fiducialref01_made n false ((v12.drop (wrapF .i64 ((wrapF .i64 ((v12.length : Int) - (b.length : Int))) + 1)).toNat).take ((v12.length : Int).toNat - (wrapF .i64 ((wrapF .i64 ((v12.length : Int) - (b.length : Int))) + 1)).toNat))) fun v17 => (
   gdO (decide (0 ≤ wrapF .i64 ((wrapF .i64 ((v12.length : Int) - (b.length : Int))) + 1))) (
   gdO (decide ((4 : Int) * (wrapF .i64 ((wrapF .i64 ((v12.length : Int) - (b.length : Int))) + 1)) ≤ 281474976710656)) (
   gdO (decide (wrapF .i64 ((wrapF .i64 ((v12.length : Int) - (b.length : Int))) + 1) ≤ 9223372036854775807)) (
   bdO (loopO (α := List Int × List Int × Int) (β := List Int × List Int) n (fun again60 (rest_22, q_23, i_24) => (
    cdO (decide (i_24 ≥ 0)) (
     gdO (inR i_24 v12.length) (
     bdO (fiducialref01_shifted n rest_22 (gt v12 i_24)) fun v63 => (
     bdO (fiducialref01_group n v63 (b.length : Int)) fun v65 => (
     bdO (fiducialref01_group n v63 (wrapF .i64 ((b.length : Int) - 1))) fun v67 => (
     gdO (inR (wrapF .i64 ((b.length : Int) - 1)) v14.length) (
     gdO (!decide (wrapF .u64 ((wrapF .u64 (gt v14 (wrapF .i64 ((b.length : Int) - 1)))) + 1) = 0)) (
     bdO (fiducialref01_scaled n v14 (wrapF .u64 ((wrapF .u64 ((wrapF .u64 (v65 * 1000000000)) + v67)).tdiv (wrapF .u64 ((wrapF .u64 (gt v14 (wrapF .i64 ((b.length : Int) - 1)))) + 1))))) fun v71 => (
     bdO (fiducialref01_minus n v63 v71) fun v73 => (
     bdO (loopO (α := List Int × Int) (β := List Int × Int) n (fun again84 (rest_75, guess_76) => (
      bdO (fiducialref01_size n rest_75 v14) fun v85 => (
      cdO (decide (v85 ≥ 0)) (
       bdO (fiducialref01_minus n rest_75 v14) fun v88 => (
       again84 (v88, wrapF .u64 (guess_76 + 1))
       )
      ) (
       some ((rest_75, guess_76))
      )
      )
     )) (v73, wrapF .u64 ((wrapF .u64 ((wrapF .u64 (v65 * 1000000000)) + v67)).tdiv (wrapF .u64 ((wrapF .u64 (gt v14 (wrapF .i64 ((b.length : Int) - 1)))) + 1))))) fun o90 => (
      match o90 with
      | (rest_82, guess_83) => (
       gdO (inR i_24 q_23.length) (
       again60 (rest_82, q_23.set i_24.toNat (wrapF .u32 guess_83), wrapF .i64 (i_24 - 1))
       )
      ))
     )
     )
     )
     )
     )
     )
     )
     )
    ) (
     some ((rest_22, q_23))
    )
   )) (v17.Groups, List.replicate (wrapF .i64 ((wrapF .i64 ((v12.length : Int) - (b.length : Int))) + 1)).toNat ((0 : Int) : Int), wrapF .i64 ((v12.length : Int) - (b.length : Int)))) fun o94 => (
    match o94 with
    | (rest_58, q_59) => (
     bdO (fiducialref01_short n rest_58 (wrapF .u64 ((1000000000 : Int).tdiv (wrapF .u64 ((wrapF .u64 (gt b (wrapF .i64 ((b.length : Int) - 1)))) + 1))))) fun v97 => (
     bdO (fiducialref01_made n false q_59) fun v99 => (
     some ((v99.Groups, v97.1))
     )
     )
    ))
   )
   )
   )
   )
   )
   )
   )
   )
   )
  )
  )
 )

def fiducialref01_pair (n : Nat) (a : List Int) : Option (Int) :=
 bdO (fiducialref01_group n a 1) fun v1 => (
 bdO (fiducialref01_group n a 0) fun v3 => (
 some (wrapF .u64 ((wrapF .u64 (v1 * 1000000000)) + v3))
 )
 )

def fiducialref01_Gcd (n : Nat) (x' : api_Int) (y : api_Int) : Option (api_Int) :=
 bdO (fiducialref01_Value n x') fun v1 => (
 bdO (fiducialref01_Value n y) fun v3 => (
 bdO (loopO (α := List Int × List Int) (β := List Int × List Int) n (fun again16 (a_5, b_6) => (
  cdO (decide ((b_6.length : Int) > 0)) (
   cdO (decide ((a_5.length : Int) > 2)) (
    bdO (fiducialref01_parts n a_5 b_6) fun v19 => (
    again16 (b_6, v19.2)
    )
   ) (
    cdO (decide ((b_6.length : Int) > 2)) (
     bdO (fiducialref01_parts n a_5 b_6) fun v22 => (
     again16 (b_6, v22.2)
     )
    ) (
     some ((a_5, b_6))
    )
   )
  ) (
   some ((a_5, b_6))
  )
 )) (v1.Groups, v3.Groups)) fun o24 => (
  match o24 with
  | (a_14, b_15) => (
   cdO (((b_15.length : Int) : Int) == 0) (
    bdO (fiducialref01_made n false a_14) fun v28 => (
    some (v28)
    )
   ) (
    bdO (fiducialref01_pair n a_14) fun v30 => (
    bdO (fiducialref01_pair n b_15) fun v32 => (
    bdO (loopO (α := Int × Int) (β := Int) n (fun again39 (u_34, v_35) => (
     cdO (decide (v_35 > 0)) (
      gdO (!decide (v_35 = 0)) (
      again39 (v_35, u_34.tmod v_35)
      )
     ) (
      some (u_34)
     )
    )) (v30, v32)) fun u_38 => (
     bdO (fiducialref01_made n false [(wrapF .u32 (u_38.tmod 1000000000)), (wrapF .u32 (wrapF .u64 (u_38.tdiv 1000000000)))]) fun v45 => (
     some (v45)
     )
    )
    )
    )
   )
  ))
 )
 )

def fiducialref01_Neg (n : Nat) (x' : api_Int) : Option (api_Int) :=
 bdO (fiducialref01_Value n x') fun v1 => (
 bdO (fiducialref01_made n (!v1.Negative) v1.Groups) fun v3 => (
 some (v3)
 )
 )

def fiducialref01_plus (n : Nat) (a : List Int) (b : List Int) : Option (List Int) :=
 bdO (loopO (α := List Int × Int × Int) (β := List Int × Int) n (fun again20 (out_1, carry_2, i_3) => (
  cdO (decide (i_3 < (a.length : Int))) (
   bdO (fiducialref01_group n a i_3) fun v22 => (
   bdO (fiducialref01_group n b i_3) fun v24 => (
   gdO (decide ((out_1.length + 1) * 4 ≤ 140737488355328)) (
   gdO (decide (out_1.length + 1 ≤ 4611686018427387904)) (
   again20 (out_1 ++ [wrapF .u32 ((wrapF .u64 ((wrapF .u64 (v22 + v24)) + carry_2)).tmod 1000000000)], wrapF .u64 ((wrapF .u64 ((wrapF .u64 (v22 + v24)) + carry_2)).tdiv 1000000000), wrapF .i64 (i_3 + 1))
   )
   )
   )
   )
  ) (
   cdO (decide (i_3 < (b.length : Int))) (
    bdO (fiducialref01_group n a i_3) fun v29 => (
    bdO (fiducialref01_group n b i_3) fun v31 => (
    gdO (decide ((out_1.length + 1) * 4 ≤ 140737488355328)) (
    gdO (decide (out_1.length + 1 ≤ 4611686018427387904)) (
    again20 (out_1 ++ [wrapF .u32 ((wrapF .u64 ((wrapF .u64 (v29 + v31)) + carry_2)).tmod 1000000000)], wrapF .u64 ((wrapF .u64 ((wrapF .u64 (v29 + v31)) + carry_2)).tdiv 1000000000), wrapF .i64 (i_3 + 1))
    )
    )
    )
    )
   ) (
    some ((out_1, carry_2))
   )
  )
 )) ([], 0, 0)) fun o35 => (
  match o35 with
  | (out_18, carry_19) => (
   gdO (decide ((out_18.length + 1) * 4 ≤ 140737488355328)) (
   gdO (decide (out_18.length + 1 ≤ 4611686018427387904)) (
   bdO (fiducialref01_made n false (out_18 ++ [wrapF .u32 carry_19])) fun v40 => (
   some (v40.Groups)
   )
   )
   )
  ))

def fiducialref01_Add (n : Nat) (x' : api_Int) (y : api_Int) : Option (api_Int) :=
 bdO (fiducialref01_Value n x') fun v1 => (
 bdO (fiducialref01_Value n y) fun v3 => (
 cdO (v1.Negative == v3.Negative) (
  bdO (fiducialref01_plus n v1.Groups v3.Groups) fun v6 => (
  bdO (fiducialref01_made n v1.Negative v6) fun v8 => (
  some (v8)
  )
  )
 ) (
  bdO (fiducialref01_size n v1.Groups v3.Groups) fun v10 => (
  cdO (decide (v10 ≥ 0)) (
   bdO (fiducialref01_minus n v1.Groups v3.Groups) fun v13 => (
   bdO (fiducialref01_made n v1.Negative v13) fun v15 => (
   some (v15)
   )
   )
  ) (
   bdO (fiducialref01_minus n v3.Groups v1.Groups) fun v17 => (
   bdO (fiducialref01_made n v3.Negative v17) fun v19 => (
   some (v19)
   )
   )
  )
  )
 )
 )
 )

def fiducialref01_Sub (n : Nat) (x' : api_Int) (y : api_Int) : Option (api_Int) :=
 bdO (fiducialref01_Neg n y) fun v1 => (
 bdO (fiducialref01_Add n x' v1) fun v3 => (
 some (v3)
 )
 )

def fiducialref01_Compare (n : Nat) (x' : api_Int) (y : api_Int) : Option (Int) :=
 bdO (fiducialref01_Sub n x' y) fun v1 => (
 bdO (fiducialref01_Sign n v1) fun v3 => (
 some (v3)
 )
 )

def fiducialref02_Valid (n : Nat) (x' : api_Rat) : Option (Bool) :=
 bdO (fiducialref01_Valid n x'.Num) fun v1 => (
 cdO (!v1) (
  some (false)
 ) (
  bdO (fiducialref01_Valid n x'.Den) fun v4 => (
  cdO (!v4) (
   some (false)
  ) (
   bdO (fiducialref01_Sign n x'.Den) fun v7 => (
   cdO (decide (v7 ≤ 0)) (
    some (false)
   ) (
    bdO (fiducialref01_Gcd n x'.Num x'.Den) fun v10 => (
    bdO (fiducialref02_whole n 1) fun v12 => (
    bdO (fiducialref01_Compare n v10 v12) fun v14 => (
    some ((v14 : Int) == 0)
    )
    )
    )
   )
   )
  )
  )
 )
 )

def fiducialref02_Value (n : Nat) (x' : api_Rat) : Option (api_Rat) :=
 bdO (fiducialref02_Valid n x') fun v1 => (
 cdO v1 (
  some (x')
 ) (
  bdO (fiducialref02_Whole n 0) fun v4 => (
  some (v4)
  )
 )
 )

def fiducialref02_Neg (n : Nat) (x' : api_Rat) : Option (api_Rat) :=
 bdO (fiducialref02_Value n x') fun v1 => (
 bdO (fiducialref01_Neg n v1.Num) fun v3 => (
 some (api_Rat.mk v3 v1.Den)
 )
 )

def fiducialref01_Mul (n : Nat) (x' : api_Int) (y : api_Int) : Option (api_Int) :=
 bdO (fiducialref01_Value n x') fun v1 => (
 bdO (fiducialref01_Value n y) fun v3 => (
 gdO (decide (0 ≤ wrapF .i64 ((v1.Groups.length : Int) + (v3.Groups.length : Int)))) (
 gdO (decide ((4 : Int) * (wrapF .i64 ((v1.Groups.length : Int) + (v3.Groups.length : Int))) ≤ 281474976710656)) (
 gdO (decide (wrapF .i64 ((v1.Groups.length : Int) + (v3.Groups.length : Int)) ≤ 9223372036854775807)) (
 bdO (loopO (α := List Int × Int) (β := List Int) n (fun again30 (out_8, i_9) => (
  cdO (decide (i_9 < (v1.Groups.length : Int))) (
   bdO (loopO (α := List Int × Int × Int) (β := List Int × Int) n (fun again41 (out_32, carry_33, j_34) => (
    cdO (decide (j_34 < (v3.Groups.length : Int))) (
     gdO (inR (wrapF .i64 (i_9 + j_34)) out_32.length) (
     gdO (inR i_9 v1.Groups.length) (
     gdO (inR j_34 v3.Groups.length) (
     again41 (out_32.set (wrapF .i64 (i_9 + j_34)).toNat (wrapF .u32 ((wrapF .u64 ((wrapF .u64 ((wrapF .u64 (gt out_32 (wrapF .i64 (i_9 + j_34)))) + (wrapF .u64 ((wrapF .u64 (gt v1.Groups i_9)) * (wrapF .u64 (gt v3.Groups j_34)))))) + carry_33)).tmod 1000000000)), wrapF .u64 ((wrapF .u64 ((wrapF .u64 ((wrapF .u64 (gt out_32 (wrapF .i64 (i_9 + j_34)))) + (wrapF .u64 ((wrapF .u64 (gt v1.Groups i_9)) * (wrapF .u64 (gt v3.Groups j_34)))))) + carry_33)).tdiv 1000000000), wrapF .i64 (j_34 + 1))
     )
     )
     )
    ) (
     some ((out_32, carry_33))
    )
   )) (out_8, 0, 0)) fun o46 => (
    match o46 with
    | (out_39, carry_40) => (
     gdO (inR (wrapF .i64 (i_9 + (v3.Groups.length : Int))) out_39.length) (
     again30 (out_39.set (wrapF .i64 (i_9 + (v3.Groups.length : Int))).toNat (wrapF .u32 carry_40), wrapF .i64 (i_9 + 1))
     )
    ))
  ) (
   some (out_8)
  )
 )) (List.replicate (wrapF .i64 ((v1.Groups.length : Int) + (v3.Groups.length : Int))).toNat ((0 : Int) : Int), 0)) fun out_29 => (
  bdO (fiducialref01_made n (v1.Negative != v3.Negative) out_29) fun v53 => (
  some (v53)
  )
 )
 )
 )
 )
 )
 )

def fiducialref01_Divide (n : Nat) (x' : api_Int) (y : api_Int) : Option (api_Int × api_Int × Int) :=
 bdO (fiducialref01_Value n x') fun v1 => (
 bdO (fiducialref01_Value n y) fun v3 => (
 cdO (((v3.Groups.length : Int) : Int) == 0) (
  some ((api_Int.mk false [], api_Int.mk false [], 14))
 ) (
  bdO (fiducialref01_parts n v1.Groups v3.Groups) fun v6 => (
  bdO (fiducialref01_made n (v1.Negative != v3.Negative) v6.1) fun v8 => (
  cdO (v1.Negative != v3.Negative) (
   cdO (decide ((v6.2.length : Int) > 0)) (
    bdO (fiducialref01_Of n 1) fun v12 => (
    bdO (fiducialref01_Sub n v8 v12) fun v14 => (
    bdO (fiducialref01_Mul n v14 v3) fun v16 => (
    bdO (fiducialref01_Sub n v1 v16) fun v18 => (
    some ((v14, v18, 0))
    )
    )
    )
    )
   ) (
    bdO (fiducialref01_Mul n v8 v3) fun v20 => (
    bdO (fiducialref01_Sub n v1 v20) fun v22 => (
    some ((v8, v22, 0))
    )
    )
   )
  ) (
   bdO (fiducialref01_Mul n v8 v3) fun v24 => (
   bdO (fiducialref01_Sub n v1 v24) fun v26 => (
   some ((v8, v26, 0))
   )
   )
  )
  )
  )
 )
 )
 )

def fiducialref02_reduced (n : Nat) (num : api_Int) (den : api_Int) : Option (api_Rat) :=
 bdO (fiducialref01_Gcd n num den) fun v1 => (
 bdO (fiducialref01_Sign n den) fun v3 => (
 cdO (decide (v3 < 0)) (
  bdO (fiducialref01_Neg n v1) fun v6 => (
  bdO (fiducialref01_Divide n num v6) fun v8 => (
  bdO (fiducialref01_Divide n den v6) fun v10 => (
  some (api_Rat.mk v8.1 v10.1)
  )
  )
  )
 ) (
  bdO (fiducialref01_Divide n num v1) fun v12 => (
  bdO (fiducialref01_Divide n den v1) fun v14 => (
  some (api_Rat.mk v12.1 v14.1)
  )
  )
 )
 )
 )

def fiducialref02_Add (n : Nat) (x' : api_Rat) (y : api_Rat) : Option (api_Rat) :=
 bdO (fiducialref02_Value n x') fun v1 => (
 bdO (fiducialref02_Value n y) fun v3 => (
 bdO (fiducialref01_Mul n v1.Num v3.Den) fun v5 => (
 bdO (fiducialref01_Mul n v3.Num v1.Den) fun v7 => (
 bdO (fiducialref01_Add n v5 v7) fun v9 => (
 bdO (fiducialref01_Mul n v1.Den v3.Den) fun v11 => (
 bdO (fiducialref02_reduced n v9 v11) fun v13 => (
 some (v13)
 )
 )
 )
 )
 )
 )
 )

def fiducialref02_Sub (n : Nat) (x' : api_Rat) (y : api_Rat) : Option (api_Rat) :=
 bdO (fiducialref02_Neg n y) fun v1 => (
 bdO (fiducialref02_Add n x' v1) fun v3 => (
 some (v3)
 )
 )

def fiducialref02_Sign (n : Nat) (x' : api_Rat) : Option (Int) :=
 bdO (fiducialref02_Value n x') fun v1 => (
 bdO (fiducialref01_Sign n v1.Num) fun v3 => (
 some (v3)
 )
 )

def fiducialref02_Compare (n : Nat) (x' : api_Rat) (y : api_Rat) : Option (Int) :=
 bdO (fiducialref02_Sub n x' y) fun v1 => (
 bdO (fiducialref02_Sign n v1) fun v3 => (
 some (v3)
 )
 )

def fiducialref02_Same (n : Nat) (x' : api_Rat) (y : api_Rat) : Option (Bool) :=
 bdO (fiducialref02_Valid n x') fun v1 => (
 cdO v1 (
  bdO (fiducialref02_Valid n y) fun v4 => (
  cdO v4 (
   bdO (fiducialref02_Compare n x' y) fun v7 => (
   some ((v7 : Int) == 0)
   )
  ) (
   some (false)
  )
  )
 ) (
  some (false)
 )
 )

def fiduciallaw46_known (n : Nat) : Option (Bool) :=
 bdO (fiduciallaw46_line n [(0 : Int), (1 : Int), (1 : Int), (2 : Int)]) fun v1 => (
 bdO (fiduciallaw46_line n [(1 : Int), (1 : Int), ((-1) : Int), ((-1) : Int)]) fun v3 => (
 bdO (depth_Consistent n v1 v3 0) fun v5 => (
 bdO (fiduciallaw46_line n [(0 : Int), (1 : Int), (1 : Int), (2 : Int)]) fun v7 => (
 bdO (depth_Turn n v7) fun v9 => (
 bdO (fiduciallaw46_line n [(2 : Int), (0 : Int)]) fun v11 => (
 bdO (depth_Depths n v11 640 100) fun v13 => (
 bdO (depth_Interval n 640 100 2) fun v15 => (
 cdO (((wrapF .i64 ((wrapF .i64 ((wrapF .i64 (v5.2 + v9.2)) + v13.2)) + v15.2)) : Int) == 0) (
  bdO (fiduciallaw46_line n [((-1) : Int), (1 : Int), (1 : Int), ((-1) : Int)]) fun v18 => (
  bdO (fiduciallaw46_Same n v5.1 v18) fun v20 => (
  cdO v20 (
   bdO (fiduciallaw46_line n [(1 : Int), (2 : Int), ((-1) : Int), ((-1) : Int)]) fun v23 => (
   bdO (fiduciallaw46_Same n v9.1 v23) fun v25 => (
   cdO v25 (
    bdO (fiduciallaw46_line n [(500 : Int), ((-1) : Int)]) fun v28 => (
    bdO (fiduciallaw46_Same n v13.1 v28) fun v30 => (
    cdO v30 (
     bdO (fiducialref02_Whole n 400) fun v33 => (
     bdO (fiducialref02_Same n v15.1.Low v33) fun v35 => (
     some (v35)
     )
     )
    ) (
     some (false)
    )
    )
    )
   ) (
    some (false)
   )
   )
   )
  ) (
   some (false)
  )
  )
  )
 ) (
  some (false)
 )
 )
 )
 )
 )
 )
 )
 )
 )

def fiduciallaw46_Valid_1 (n : Nat) (v : Int) : Option (Bool) :=
 cdO (decide (v < (-1))) (
  some (true)
 ) (
  some (decide (v > 1048576))
 )

def slices_IndexFunc_int_int_of_fiduciallaw46_Valid_1 (n : Nat) (s : List Int) : Option (Int) :=
 bdO (loopO (α := Int) (β := Sum (Unit) (Int)) n (fun again7 x_1 => (
  cdO (decide (x_1 < (s.length : Int))) (
   gdO (inR x_1 s.length) (
   bdO (fiduciallaw46_Valid_1 n (gt s x_1)) fun v10 => (
   cdO v10 (
    some (Sum.inr (x_1))
   ) (
    again7 (wrapF .i64 (x_1 + 1))
   )
   )
   )
  ) (
   some (Sum.inl ())
  )
 )) 0) fun o13 => (
  match o13 with
  | .inl _ => (
   some ((-1))
  )
  | .inr (r0) => (
   some r0
  ))

def slices_ContainsFunc_int_int_of_fiduciallaw46_Valid_1 (n : Nat) (s : List Int) : Option (Bool) :=
 bdO (slices_IndexFunc_int_int_of_fiduciallaw46_Valid_1 n s) fun v1 => (
 some (decide (v1 ≥ 0))
 )

def fiduciallaw46_Valid (n : Nat) (f : api_Field) : Option (Bool) :=
 cdO (decide ((mn f.Width f.Height) ≥ 1)) (
  cdO (decide ((mx f.Width f.Height) ≤ 64)) (
   cdO (((f.V.length : Int) : Int) == (wrapF .i64 (f.Width * f.Height))) (
    bdO (slices_ContainsFunc_int_int_of_fiduciallaw46_Valid_1 n f.V) fun v4 => (
    some (!v4)
    )
   ) (
    some (false)
   )
  ) (
   some (false)
  )
 ) (
  some (false)
 )

def fiduciallaw46_few (n : Nat) (f : api_Field) : Option (Bool) :=
 cdO (decide ((f.V.length : Int) ≤ 80)) (
  bdO (fiduciallaw46_Valid n f) fun v2 => (
  cdO (!v2) (
   some (true)
  ) (
   cdO (decide (f.Width ≤ 8)) (
    some (decide (f.Height ≤ 8))
   ) (
    some (false)
   )
  )
  )
 ) (
  some (false)
 )

def fiduciallaw46_two (n : Nat) (a : api_Field) (b : api_Field) : Option (Int) :=
 bdO (fiduciallaw46_Valid n a) fun v1 => (
 cdO (!v1) (
  some (1)
 ) (
  bdO (fiduciallaw46_Valid n b) fun v4 => (
  cdO (!v4) (
   some (1)
  ) (
   cdO ((a.Width : Int) != b.Width) (
    some (4)
   ) (
    cdO ((a.Height : Int) != b.Height) (
     some (4)
    ) (
     some (0)
    )
   )
  )
  )
 )
 )

def fiduciallaw46_At (n : Nat) (f : api_Field) (x' : Int) (y : Int) : Option (Int) :=
 gdO (inR (wrapF .i64 ((wrapF .i64 (y * f.Width)) + x')) f.V.length) (
 some ((gt f.V (wrapF .i64 ((wrapF .i64 (y * f.Width)) + x'))))
 )

def fiduciallaw46_Flipped_1 (n : Nat) (x' : Int) (y : Int) (p : Int) (p' : Int) (p'' : List Int) : Option (Int) :=
 bdO (fiduciallaw46_At n (api_Field.mk p p' p'') x' (wrapF .i64 ((wrapF .i64 (p' - 1)) - y))) fun v1 => (
 some (v1)
 )

def fiduciallaw46_Made_of_fiduciallaw46_Flipped_1 (n : Nat) (f : api_Field) (c : Int) (c' : Int) (c'' : List Int) : Option (api_Field) :=
 bdO (loopO (α := List Int × Int) (β := List Int) n (fun again25 (out_1, x_2) => (
  cdO (decide (x_2 < f.Height)) (
   bdO (loopO (α := List Int × Int) (β := List Int) n (fun again37 (out_28, x_29) => (
    cdO (decide (x_29 < f.Width)) (
     bdO (fiduciallaw46_Flipped_1 n x_29 x_2 c c' c'') fun v40 => (
     gdO (decide ((out_28.length + 1) * 8 ≤ 140737488355328)) (
     gdO (decide (out_28.length + 1 ≤ 4611686018427387904)) (
     again37 (out_28 ++ [v40], wrapF .i64 (x_29 + 1))
     )
     )
     )
    ) (
     some (out_28)
    )
   )) (out_1, 0)) fun out_36 => (
    again25 (out_36, wrapF .i64 (x_2 + 1))
   )
  ) (
   some (out_1)
  )
 )) ([], 0)) fun out_24 => (
  some (api_Field.mk f.Width f.Height out_24)
 )

def fiduciallaw46_Flipped (n : Nat) (f : api_Field) : Option (api_Field) :=
 bdO (fiduciallaw46_Made_of_fiduciallaw46_Flipped_1 n f f.Width f.Height f.V) fun v1 => (
 some (v1)
 )

def fiduciallaw46_DepthFlips_1 (n : Nat) (a : api_Field) (b : api_Field) (p : Int) (p' : Int) : Option (api_Field × Int) :=
 bdO (depth_Consistent n a b (wrapF .i64 p)) fun v1 => (
 some ((v1.1, v1.2))
 )

def fiduciallaw46_DepthFlips_2 (n : Nat) (a : api_Field) (b : api_Field) : Option (api_Field × Int) :=
 bdO (depth_Turn n a) fun v1 => (
 some ((v1.1, v1.2))
 )

def fiduciallaw46_DepthFlips_3 (n : Nat) (a : api_Field) (b : api_Field) (p : Int) (p' : Int) : Option (api_Field × Int) :=
 bdO (depth_Depths n a 1000 (wrapF .i64 (1 + (wrapF .i64 p')))) fun v1 => (
 some ((v1.1, v1.2))
 )

def depth_Speckles (n : Nat) (f : api_Field) (step : Int) (least : Int) : Option (api_Field × Int) :=
 bdO (depth_Check n f) fun v1 => (
 cdO ((v1 : Int) != 0) (
  some ((api_Field.mk 0 0 [], 1))
 ) (
  cdO (decide (step < 0)) (
   some ((api_Field.mk 0 0 [], 2))
  ) (
   bdO (depth_blank_w n f) fun v7 => (
   gdO (decide (0 ≤ (f.V.length : Int))) (
   gdO (decide ((1 : Int) * (f.V.length : Int) ≤ 281474976710656)) (
   gdO (decide ((f.V.length : Int) ≤ 9223372036854775807)) (
   bdO (loopO (α := List Int × List Bool × Int) (β := List Int) n (fun again239 (out_12, seen_13, x_14) => (
    cdO (decide (x_14 < (f.V.length : Int))) (
     gdO (inR x_14 f.V.length) (
     cdO (decide ((gt f.V x_14) < 0)) (
      again239 (out_12, seen_13, wrapF .i64 (x_14 + 1))
     ) (
      gdO (inR x_14 seen_13.length) (
      cdO (gt seen_13 x_14) (
       again239 (out_12, seen_13, wrapF .i64 (x_14 + 1))
      ) (
       bdO (loopO (α := List Bool × List Int × Int) (β := List Bool × List Int) n (fun again396 (seen_346, region_347, at_348) => (
        cdO (decide (at_348 < (region_347.length : Int))) (
         gdO (inR at_348 region_347.length) (
         gdO (!decide (f.Width = 0)) (
         bdO (loopO (α := List Bool × List Int × Int) (β := List Bool × List Int) n (fun again422 (seen_401, region_402, x_403) => (
          cdO (decide (x_403 < 4)) (
           gdO (inR x_403 ((nbs (gt region_347 at_348) f.Width).length)) (
           cdO (decide ((gt (nbs (gt region_347 at_348) f.Width) x_403).e0 < 0)) (
            again422 (seen_401, region_402, wrapF .i64 (x_403 + 1))
           ) (
            cdO (decide ((gt (nbs (gt region_347 at_348) f.Width) x_403).e0 ≥ f.Width)) (
             again422 (seen_401, region_402, wrapF .i64 (x_403 + 1))
            ) (
             cdO (decide ((gt (nbs (gt region_347 at_348) f.Width) x_403).e1 < 0)) (
              again422 (seen_401, region_402, wrapF .i64 (x_403 + 1))
             ) (
              cdO (decide ((gt (nbs (gt region_347 at_348) f.Width) x_403).e1 ≥ f.Height)) (
               again422 (seen_401, region_402, wrapF .i64 (x_403 + 1))
              ) (
               gdO (inR (wrapF .i64 ((wrapF .i64 ((gt (nbs (gt region_347 at_348) f.Width) x_403).e1 * f.Width)) + (gt (nbs (gt region_347 at_348) f.Width) x_403).e0)) seen_401.length) (
               cdO (!(gt seen_401 (wrapF .i64 ((wrapF .i64 ((gt (nbs (gt region_347 at_348) f.Width) x_403).e1 * f.Width)) + (gt (nbs (gt region_347 at_348) f.Width) x_403).e0)))) (
                gdO (inR (wrapF .i64 ((wrapF .i64 ((gt (nbs (gt region_347 at_348) f.Width) x_403).e1 * f.Width)) + (gt (nbs (gt region_347 at_348) f.Width) x_403).e0)) f.V.length) (
                cdO (decide ((gt f.V (wrapF .i64 ((wrapF .i64 ((gt (nbs (gt region_347 at_348) f.Width) x_403).e1 * f.Width)) + (gt (nbs (gt region_347 at_348) f.Width) x_403).e0))) ≥ 0)) (
                 gdO (inR (gt region_347 at_348) f.V.length) (
                 cdO (decide ((mx (wrapF .i64 ((gt f.V (gt region_347 at_348)) - (gt f.V (wrapF .i64 ((wrapF .i64 ((gt (nbs (gt region_347 at_348) f.Width) x_403).e1 * f.Width)) + (gt (nbs (gt region_347 at_348) f.Width) x_403).e0))))) (wrapF .i64 ((gt f.V (wrapF .i64 ((wrapF .i64 ((gt (nbs (gt region_347 at_348) f.Width) x_403).e1 * f.Width)) + (gt (nbs (gt region_347 at_348) f.Width) x_403).e0))) - (gt f.V (gt region_347 at_348))))) ≤ step)) (
                  gdO (decide ((region_402.length + 1) * 8 ≤ 140737488355328)) (
                  gdO (decide (region_402.length + 1 ≤ 4611686018427387904)) (
                  again422 (seen_401.set (wrapF .i64 ((wrapF .i64 ((gt (nbs (gt region_347 at_348) f.Width) x_403).e1 * f.Width)) + (gt (nbs (gt region_347 at_348) f.Width) x_403).e0)).toNat true, region_402 ++ [wrapF .i64 ((wrapF .i64 ((gt (nbs (gt region_347 at_348) f.Width) x_403).e1 * f.Width)) + (gt (nbs (gt region_347 at_348) f.Width) x_403).e0)], wrapF .i64 (x_403 + 1))
                  )
                  )
                 ) (
                  again422 (seen_401, region_402, wrapF .i64 (x_403 + 1))
                 )
                 )
                ) (
                 again422 (seen_401, region_402, wrapF .i64 (x_403 + 1))
                )
                )
               ) (
                again422 (seen_401, region_402, wrapF .i64 (x_403 + 1))
               )
               )
              )
             )
            )
           )
           )
          ) (
           some ((seen_401, region_402))
          )
         )) (seen_346, region_347, 0)) fun o439 => (
          match o439 with
          | (seen_420, region_421) => (
           again396 (seen_420, region_421, wrapF .i64 (at_348 + 1))
          ))
         )
         )
        ) (
         some ((seen_346, region_347))
        )
       )) (seen_13.set x_14.toNat true, [x_14], 0)) fun o442 => (
        match o442 with
        | (seen_394, region_395) => (
         cdO (decide ((region_395.length : Int) ≥ least)) (
          bdO (loopO (α := List Int × Int) (β := List Int) n (fun again454 (out_446, x_447) => (
           cdO (decide (x_447 < (region_395.length : Int))) (
            gdO (inR x_447 region_395.length) (
            gdO (inR (gt region_395 x_447) f.V.length) (
            gdO (inR (gt region_395 x_447) out_446.length) (
            again454 (out_446.set (gt region_395 x_447).toNat (gt f.V (gt region_395 x_447)), wrapF .i64 (x_447 + 1))
            )
            )
            )
           ) (
            some (out_446)
           )
          )) (out_12, 0)) fun out_453 => (
           again239 (out_453, seen_394, wrapF .i64 (x_14 + 1))
          )
         ) (
          again239 (out_12, seen_394, wrapF .i64 (x_14 + 1))
         )
        ))
      )
      )
     )
     )
    ) (
     some (out_12)
    )
   )) (v7.2.2, List.replicate (f.V.length : Int).toNat false, 0)) fun out_238 => (
    some ((api_Field.mk v7.1 v7.2.1 out_238, 0))
   )
   )
   )
   )
   )
  )
 )
 )

def fiduciallaw46_DepthFlips_4 (n : Nat) (a : api_Field) (b : api_Field) (p : Int) (p' : Int) : Option (api_Field × Int) :=
 bdO (depth_Speckles n a (wrapF .i64 p) (wrapF .i64 p')) fun v1 => (
 some ((v1.1, v1.2))
 )

def slices_Clone_int_int_w (n : Nat) (s : List Int) : Option (List Int) :=
 gdO (decide ((0 + s.length) * 8 ≤ 140737488355328)) (
 gdO (decide (0 + s.length ≤ 4611686018427387904)) (
 some (s)
 )
 )

def depth_Fill (n : Nat) (f : api_Field) (longest : Int) : Option (api_Field × Int) :=
 bdO (depth_Check n f) fun v1 => (
 cdO ((v1 : Int) != 0) (
  some ((api_Field.mk 0 0 [], 1))
 ) (
  cdO (decide (longest < 0)) (
   some ((api_Field.mk 0 0 [], 2))
  ) (
   bdO (slices_Clone_int_int_w n f.V) fun v7 => (
   bdO (loopO (α := List Int × Int) (β := List Int) n (fun again77 (f_9, x_10) => (
    cdO (decide (x_10 < f.Height)) (
     gdO (inS (wrapF .i64 (x_10 * f.Width)) (wrapF .i64 ((wrapF .i64 (x_10 + 1)) * f.Width)) f_9.length) (
     bdO (loopO (α := List Int × Int × Int) (β := List Int) n (fun again112 (f_81, last_82, x_83) => (
      cdO (decide (x_83 < (((wrapF .i64 ((wrapF .i64 (x_10 + 1)) * f.Width)).toNat - (wrapF .i64 (x_10 * f.Width)).toNat : Nat) : Int))) (
       gdO (inR x_83 ((wrapF .i64 ((wrapF .i64 (x_10 + 1)) * f.Width)).toNat - (wrapF .i64 (x_10 * f.Width)).toNat)) (
       gdO (inR (((wrapF .i64 (x_10 * f.Width)).toNat + x_83.toNat : Nat) : Int) f_81.length) (
       cdO (decide ((gt f_81 (((wrapF .i64 (x_10 * f.Width)).toNat + x_83.toNat : Nat) : Int)) < 0)) (
        again112 (f_81, last_82, wrapF .i64 (x_83 + 1))
       ) (
        cdO (decide (last_82 ≥ 0)) (
         cdO (decide ((wrapF .i64 ((wrapF .i64 (x_83 - last_82)) - 1)) ≤ longest)) (
          bdO (loopO (α := List Int × Int) (β := List Int) n (fun again130 (f_121, k_122) => (
           cdO (decide (k_122 < x_83)) (
            gdO (inR last_82 ((wrapF .i64 ((wrapF .i64 (x_10 + 1)) * f.Width)).toNat - (wrapF .i64 (x_10 * f.Width)).toNat)) (
            gdO (inR (((wrapF .i64 (x_10 * f.Width)).toNat + last_82.toNat : Nat) : Int) f_121.length) (
            gdO (inR k_122 ((wrapF .i64 ((wrapF .i64 (x_10 + 1)) * f.Width)).toNat - (wrapF .i64 (x_10 * f.Width)).toNat)) (
            gdO (inR (((wrapF .i64 (x_10 * f.Width)).toNat + k_122.toNat : Nat) : Int) f_121.length) (
            again130 (f_121.set (((wrapF .i64 (x_10 * f.Width)).toNat + k_122.toNat : Nat) : Int).toNat (mn (gt f_81 (((wrapF .i64 (x_10 * f.Width)).toNat + x_83.toNat : Nat) : Int)) (gt f_121 (((wrapF .i64 (x_10 * f.Width)).toNat + last_82.toNat : Nat) : Int))), wrapF .i64 (k_122 + 1))
            )
            )
            )
            )
           ) (
            some (f_121)
           )
          )) (f_81, wrapF .i64 (last_82 + 1))) fun f_129 => (
           again112 (f_129, x_83, wrapF .i64 (x_83 + 1))
          )
         ) (
          again112 (f_81, x_83, wrapF .i64 (x_83 + 1))
         )
        ) (
         again112 (f_81, x_83, wrapF .i64 (x_83 + 1))
        )
       )
       )
       )
      ) (
       some (f_81)
      )
     )) (f_9, (-1), 0)) fun f_111 => (
      again77 (f_111, wrapF .i64 (x_10 + 1))
     )
     )
    ) (
     some (f_9)
    )
   )) (v7, 0)) fun f_76 => (
    some ((api_Field.mk f.Width f.Height f_76, 0))
   )
   )
  )
 )
 )

def fiduciallaw46_DepthFlips_5 (n : Nat) (a : api_Field) (b : api_Field) (p : Int) (p' : Int) : Option (api_Field × Int) :=
 bdO (depth_Fill n a (wrapF .i64 p)) fun v1 => (
 some ((v1.1, v1.2))
 )

def slices_Sort_int_int_w (n : Nat) (x' : List Int) : Option (List Int) :=
 gdO (decide (x'.length < 4611686018427387904)) (
 some (isrt x')
 )

def depth_Fuse (n : Nat) (l : List api_Field) : Option (api_Field × api_Field × Int) :=
 bdO (loopO (α := Int) (β := Sum (Unit) (api_Field × api_Field × Int)) n (fun again25 x_18 => (
  cdO (decide (x_18 < (l.length : Int))) (
   gdO (inR x_18 l.length) (
   bdO (depth_Check n (gt l x_18)) fun v29 => (
   cdO ((v29 : Int) != 0) (
    some (Sum.inr ((api_Field.mk 0 0 [], api_Field.mk 0 0 [], 1)))
   ) (
    again25 (wrapF .i64 (x_18 + 1))
   )
   )
   )
  ) (
   some (Sum.inl ())
  )
 )) 0) fun o32 => (
  match o32 with
  | .inl _ => (
   cdO (decide ((l.length : Int) < 1)) (
    some ((api_Field.mk 0 0 [], api_Field.mk 0 0 [], 3))
   ) (
    cdO (decide ((l.length : Int) > 16)) (
     some ((api_Field.mk 0 0 [], api_Field.mk 0 0 [], 3))
    ) (
     bdO (loopO (α := Int) (β := Sum (Unit) (api_Field × api_Field × Int)) n (fun again65 x_57 => (
      cdO (decide (x_57 < (l.length : Int))) (
       gdO (inR x_57 l.length) (
       gdO (inR 0 l.length) (
       bdO (depth_alike n (gt l x_57) (gt l 0)) fun v70 => (
       cdO (!v70) (
        some (Sum.inr ((api_Field.mk 0 0 [], api_Field.mk 0 0 [], 4)))
       ) (
        again65 (wrapF .i64 (x_57 + 1))
       )
       )
       )
       )
      ) (
       some (Sum.inl ())
      )
     )) 0) fun o73 => (
      match o73 with
      | .inl _ => (
       gdO (inR 0 l.length) (
       bdO (depth_blank_w n (gt l 0)) fun v77 => (
       bdO (depth_blank_w n (gt l 0)) fun v79 => (
       bdO (loopO (α := List Int × List Int × Int) (β := List Int × List Int) n (fun again137 (fused_81, count_82, x_83) => (
        cdO (decide (x_83 < (v77.2.2.length : Int))) (
         bdO (loopO (α := List Int × Int) (β := List Int) n (fun again171 (here_161, x_162) => (
          cdO (decide (x_162 < (l.length : Int))) (
           gdO (inR x_162 l.length) (
           gdO (inR x_83 (gt l x_162).V.length) (
           cdO (decide ((gt (gt l x_162).V x_83) ≥ 0)) (
            gdO (decide ((here_161.length + 1) * 8 ≤ 140737488355328)) (
            gdO (decide (here_161.length + 1 ≤ 4611686018427387904)) (
            again171 (here_161 ++ [(gt (gt l x_162).V x_83)], wrapF .i64 (x_162 + 1))
            )
            )
           ) (
            again171 (here_161, wrapF .i64 (x_162 + 1))
           )
           )
           )
          ) (
           some (here_161)
          )
         )) ([], 0)) fun here_170 => (
          bdO (slices_Sort_int_int_w n here_170) fun v182 => (
          gdO (decide (v182.length = here_170.length)) (
          gdO (inR x_83 count_82.length) (
          cdO (decide ((here_170.length : Int) > 0)) (
           gdO (inR (wrapF .i64 ((wrapF .i64 ((here_170.length : Int) - 1)).tdiv 2)) here_170.length) (
           gdO (inR x_83 fused_81.length) (
           again137 (fused_81.set x_83.toNat (gt v182 (wrapF .i64 ((wrapF .i64 ((here_170.length : Int) - 1)).tdiv 2))), count_82.set x_83.toNat (here_170.length : Int), wrapF .i64 (x_83 + 1))
           )
           )
          ) (
           again137 (fused_81, count_82.set x_83.toNat (here_170.length : Int), wrapF .i64 (x_83 + 1))
          )
          )
          )
          )
         )
        ) (
         some ((fused_81, count_82))
        )
       )) (v77.2.2, v79.2.2, 0)) fun o189 => (
        match o189 with
        | (fused_135, count_136) => (
         some ((api_Field.mk v77.1 v77.2.1 fused_135, api_Field.mk v79.1 v79.2.1 count_136, 0))
        ))
       )
       )
       )
      )
      | .inr (r0) => (
       some r0
      ))
    )
   )
  )
  | .inr (r0) => (
   some r0
  ))

def fiduciallaw46_DepthFlips_6 (n : Nat) (a : api_Field) (b : api_Field) : Option (api_Field × Int) :=
 bdO (depth_Fuse n [a, b]) fun v1 => (
 some ((v1.1, v1.2.2))
 )

def fiduciallaw46_DepthFlips (n : Nat) (f : api_Field) (g : api_Field) (n' : A2 Int) : Option (Bool) :=
 bdO (fiduciallaw46_known n) fun v1 => (
 cdO (!v1) (
  some (false)
 ) (
  bdO (fiduciallaw46_few n f) fun v5 => (
  cdO (!v5) (
   some (true)
  ) (
   bdO (fiduciallaw46_few n g) fun v8 => (
   cdO (!v8) (
    some (true)
   ) (
    bdO (fiduciallaw46_two n f g) fun v11 => (
    cdO ((v11 : Int) != 0) (
     some (true)
    ) (
     bdO (fiduciallaw46_Flipped n f) fun v15 => (
     bdO (fiduciallaw46_Flipped n g) fun v17 => (
     bdO (fiduciallaw46_DepthFlips_1 n f g n'.e0 n'.e1) fun v19 => (
     bdO (fiduciallaw46_DepthFlips_1 n v15 v17 n'.e0 n'.e1) fun v21 => (
     cdO ((v19.2 : Int) != 0) (
      some (false)
     ) (
      cdO ((v21.2 : Int) != 0) (
       some (false)
      ) (
       bdO (fiduciallaw46_Valid n v19.1) fun v25 => (
       cdO (!v25) (
        some (false)
       ) (
        bdO (fiduciallaw46_Flipped n v19.1) fun v28 => (
        bdO (fiduciallaw46_Same n v28 v21.1) fun v30 => (
        cdO (!v30) (
         some (false)
        ) (
         bdO (fiduciallaw46_DepthFlips_2 n f g) fun v33 => (
         bdO (fiduciallaw46_DepthFlips_2 n v15 v17) fun v35 => (
         cdO ((v33.2 : Int) != 0) (
          some (false)
         ) (
          cdO ((v35.2 : Int) != 0) (
           some (false)
          ) (
           bdO (fiduciallaw46_Valid n v33.1) fun v39 => (
           cdO (!v39) (
            some (false)
           ) (
            bdO (fiduciallaw46_Flipped n v33.1) fun v42 => (
            bdO (fiduciallaw46_Same n v42 v35.1) fun v44 => (
            cdO (!v44) (
             some (false)
            ) (
             bdO (fiduciallaw46_DepthFlips_3 n f g n'.e0 n'.e1) fun v47 => (
             bdO (fiduciallaw46_DepthFlips_3 n v15 v17 n'.e0 n'.e1) fun v49 => (
             cdO ((v47.2 : Int) != 0) (
              some (false)
             ) (
              cdO ((v49.2 : Int) != 0) (
               some (false)
              ) (
               bdO (fiduciallaw46_Valid n v47.1) fun v53 => (
               cdO (!v53) (
                some (false)
               ) (
                bdO (fiduciallaw46_Flipped n v47.1) fun v56 => (
                bdO (fiduciallaw46_Same n v56 v49.1) fun v58 => (
                cdO (!v58) (
                 some (false)
                ) (
                 bdO (fiduciallaw46_DepthFlips_4 n f g n'.e0 n'.e1) fun v61 => (
                 bdO (fiduciallaw46_DepthFlips_4 n v15 v17 n'.e0 n'.e1) fun v63 => (
                 cdO ((v61.2 : Int) != 0) (
                  some (false)
                 ) (
                  cdO ((v63.2 : Int) != 0) (
                   some (false)
                  ) (
                   bdO (fiduciallaw46_Valid n v61.1) fun v67 => (
                   cdO (!v67) (
                    some (false)
                   ) (
                    bdO (fiduciallaw46_Flipped n v61.1) fun v70 => (
                    bdO (fiduciallaw46_Same n v70 v63.1) fun v72 => (
                    cdO (!v72) (
                     some (false)
                    ) (
                     bdO (fiduciallaw46_DepthFlips_5 n f g n'.e0 n'.e1) fun v75 => (
                     bdO (fiduciallaw46_DepthFlips_5 n v15 v17 n'.e0 n'.e1) fun v77 => (
                     cdO ((v75.2 : Int) != 0) (
                      some (false)
                     ) (
                      cdO ((v77.2 : Int) != 0) (
                       some (false)
                      ) (
                       bdO (fiduciallaw46_Valid n v75.1) fun v81 => (
                       cdO (!v81) (
                        some (false)
                       ) (
                        bdO (fiduciallaw46_Flipped n v75.1) fun v84 => (
                        bdO (fiduciallaw46_Same n v84 v77.1) fun v86 => (
                        cdO (!v86) (
                         some (false)
                        ) (
                         bdO (fiduciallaw46_DepthFlips_6 n f g) fun v89 => (
                         bdO (fiduciallaw46_DepthFlips_6 n v15 v17) fun v91 => (
                         cdO ((v89.2 : Int) != 0) (
                          some (false)
                         ) (
                          cdO ((v91.2 : Int) != 0) (
                           some (false)
                          ) (
                           bdO (fiduciallaw46_Valid n v89.1) fun v95 => (
                           cdO (!v95) (
                            some (false)
                           ) (
                            bdO (fiduciallaw46_Flipped n v89.1) fun v98 => (
                            bdO (fiduciallaw46_Same n v98 v91.1) fun v100 => (
                            cdO (!v100) (
                             some (false)
                            ) (
                             some (true)
                            )
                            )
                            )
                           )
                           )
                          )
                         )
                         )
                         )
                        )
                        )
                        )
                       )
                       )
                      )
                     )
                     )
                     )
                    )
                    )
                    )
                   )
                   )
                  )
                 )
                 )
                 )
                )
                )
                )
               )
               )
              )
             )
             )
             )
            )
            )
            )
           )
           )
          )
         )
         )
         )
        )
        )
        )
       )
       )
      )
     )
     )
     )
     )
     )
    )
    )
   )
   )
  )
  )
 )
 )
end Go.L
