/- The program's functions as plain Lean programs, printed by a program. -/
import Derived.Test.YtgleghponjgkpaaGreatSc11phkkjgan
import Derived.Test.YtgleghponjgkpaaGreatScMmeeffgkj
import Derived.Test.YtgleghponjgkpaaGreatScRlpoejdkk
import Derived.Test.YtgleghponjgkpaaGreatScUpcnalfma
set_option linter.all false
set_option maxRecDepth 100000
set_option maxHeartbeats 4000000
namespace Go.L
open Go Go.Eng
structure api_Int where
 Negative : Bool
 Groups : List Int
 deriving Inhabited

structure api_Rat where
 Num : api_Int
 Den : api_Int
 deriving Inhabited

def api_Rat.c (x : api_Rat) : List AV := [.at (.bool x.Num.Negative), slT (iC .u32) x.Num.Groups, .at (.bool x.Den.Negative), slT (iC .u32) x.Den.Groups]
theorem api_Rat.len : ∀ x, (api_Rat.c x).length = 4 := fun _ => rfl
theorem api_Rat.pure : ∀ x, idsOfL (api_Rat.c x) = [] := fun _ => rfl

structure api_Grid where
 X0 : Int
 Y0 : Int
 Step : Int
 Width : Int
 Height : Int
 Z : List Int
 deriving Inhabited

structure A3 (α : Type) where
 e0 : α
 e1 : α
 e2 : α
 deriving Inhabited

def A3_3_int.c (x : A3 Int) : List AV := [.at (.int .i64 x.e0), .at (.int .i64 x.e1), .at (.int .i64 x.e2)]
theorem A3_3_int.len : ∀ x, (A3_3_int.c x).length = 3 := fun _ => rfl
theorem A3_3_int.pure : ∀ x, idsOfL (A3_3_int.c x) = [] := fun _ => rfl

structure api_Spot where
 X : Int
 Y : Int
 Z : Int
 deriving Inhabited

structure api_Mesh where
 Vertices : List api_Spot
 Faces : List (A3 Int)
 deriving Inhabited

def api_Spot.c (x : api_Spot) : List AV := [.at (.int .i64 x.X), .at (.int .i64 x.Y), .at (.int .i64 x.Z)]
theorem api_Spot.len : ∀ x, (api_Spot.c x).length = 3 := fun _ => rfl
theorem api_Spot.pure : ∀ x, idsOfL (api_Spot.c x) = [] := fun _ => rfl

structure A2 (α : Type) where
 e0 : α
 e1 : α
 deriving Inhabited, DecidableEq

def A2_i64.K (x : A2 Int) : Value := .agg #[.int .i64 x.e0, .int .i64 x.e1]
theorem A2_i64.key : KeyK A2_i64.K := fun ⟨a0, a1⟩ ⟨b0, b1⟩ => by
 have h : ((⟨a0, a1⟩ : A2 Int) == ⟨b0, b1⟩) = (a0 == b0 && (a1 == b1 && true)) := by rw [Bool.eq_iff_iff]; simp
 show some _ = some _
 rw [h]

def api_Grid.c (x : api_Grid) : List AV := [.at (.int .i64 x.X0), .at (.int .i64 x.Y0), .at (.int .i64 x.Step), .at (.int .i64 x.Width), .at (.int .i64 x.Height), slT (iC .i64) x.Z]
theorem api_Grid.len : ∀ x, (api_Grid.c x).length = 6 := fun _ => rfl
theorem api_Grid.pure : ∀ x, idsOfL (api_Grid.c x) = [] := fun _ => rfl

def api_Int.c (x : api_Int) : List AV := [.at (.bool x.Negative), slT (iC .u32) x.Groups]
theorem api_Int.len : ∀ x, (api_Int.c x).length = 2 := fun _ => rfl
theorem api_Int.pure : ∀ x, idsOfL (api_Int.c x) = [] := fun _ => rfl

def api_Mesh.c (x : api_Mesh) : List AV := [slT api_Spot.c x.Vertices, slT A3_3_int.c x.Faces]
theorem api_Mesh.len : ∀ x, (api_Mesh.c x).length = 2 := fun _ => rfl
theorem api_Mesh.pure : ∀ x, idsOfL (api_Mesh.c x) = [] := fun _ => rfl

def fiducialref01_made (n : Nat) (negative : Bool) (l : List Int) : Option (api_Int) :=
 bdO (loopO (α := Int) (β := Int) n (fun again6 n_1 => (
  cdO (decide (n_1 > 0)) (
   gdO (inR (wrapF .i64 (n_1 - 1)) l.length) (
   cdO (((gt l (wrapF .i64 (n_1 - 1))) : Int) == 0) (
    again6 (wrapF .i64 (n_1 - 1))
   ) (
    some (n_1)
   )
   )
  ) (
   some (n_1)
  )
 )) (l.length : Int)) fun n_5 => (
  cdO negative (
   gdO (inS 0 n_5 l.length) (
   gdO (decide ((0 + ((l.drop (0 : Int).toNat).take (n_5.toNat - (0 : Int).toNat)).length) * 4 ≤ 140737488355328)) (
   gdO (decide (0 + ((l.drop (0 : Int).toNat).take (n_5.toNat - (0 : Int).toNat)).length ≤ 4611686018427387904)) (
   some (api_Int.mk (decide (n_5 > 0)) ((l.drop (0 : Int).toNat).take (n_5.toNat - (0 : Int).toNat)))
   )
   )
   )
  ) (
   gdO (inS 0 n_5 l.length) (
   gdO (decide ((0 + ((l.drop (0 : Int).toNat).take (n_5.toNat - (0 : Int).toNat)).length) * 4 ≤ 140737488355328)) (
   gdO (decide (0 + ((l.drop (0 : Int).toNat).take (n_5.toNat - (0 : Int).toNat)).length ≤ 4611686018427387904)) (
   some (api_Int.mk false ((l.drop (0 : Int).toNat).take (n_5.toNat - (0 : Int).toNat)))
   )
   )
   )
  )
 )

def fiducialref01_Of (n : Nat) (n' : Int) : Option (api_Int) :=
 cdO (decide (n' < 0)) (
  bdO (loopO (α := Int × List Int) (β := List Int) n (fun again8 (u_2, l_3) => (
   cdO (decide (u_2 > 0)) (
    gdO (decide ((l_3.length + 1) * 4 ≤ 140737488355328)) (
    gdO (decide (l_3.length + 1 ≤ 4611686018427387904)) (
    again8 (wrapF .u64 (u_2.tdiv 1000000000), l_3 ++ [wrapF .u32 (u_2.tmod 1000000000)])
    )
    )
   ) (
    some (l_3)
   )
  )) (wrapF .u64 ((wrapF .u64 (wrapF .i64 (0 - (wrapF .i64 (n' + 1))))) + 1), [])) fun l_7 => (
   bdO (fiducialref01_made n true l_7) fun v15 => (
   some (v15)
   )
  )
 ) (
  bdO (loopO (α := Int × List Int) (β := List Int) n (fun again23 (u_17, l_18) => (
   cdO (decide (u_17 > 0)) (
    gdO (decide ((l_18.length + 1) * 4 ≤ 140737488355328)) (
    gdO (decide (l_18.length + 1 ≤ 4611686018427387904)) (
    again23 (wrapF .u64 (u_17.tdiv 1000000000), l_18 ++ [wrapF .u32 (u_17.tmod 1000000000)])
    )
    )
   ) (
    some (l_18)
   )
  )) (wrapF .u64 n', [])) fun l_22 => (
   bdO (fiducialref01_made n false l_22) fun v30 => (
   some (v30)
   )
  )
 )

def fiducialref02_whole (n : Nat) (n' : Int) : Option (api_Int) :=
 bdO (fiducialref01_Of n n') fun v1 => (
 some (v1)
 )

def fiducialref02_Whole (n : Nat) (n' : Int) : Option (api_Rat) :=
 bdO (fiducialref02_whole n n') fun v1 => (
 bdO (fiducialref02_whole n 1) fun v3 => (
 some (api_Rat.mk v1 v3)
 )
 )

def fiducialref02_Int (n : Nat) (n' : Int) : Option (api_Rat) :=
 bdO (fiducialref02_Whole n n') fun v1 => (
 some (v1)
 )

def integer_Valid_1 (n : Nat) (g : Int) : Option (Bool) :=
 some (decide (g ≥ 1000000000))

def slices_IndexFunc_uint32_uint32_of_integer_Valid_1 (n : Nat) (s : List Int) : Option (Int) :=
 bdO (loopO (α := Int) (β := Sum (Unit) (Int)) n (fun again7 x_1 => (
  cdO (decide (x_1 < (s.length : Int))) (
   gdO (inR x_1 s.length) (
   bdO (integer_Valid_1 n (gt s x_1)) fun v10 => (
   cdO v10 (
    some (Sum.inr (x_1))
   ) (
    again7 (wrapF .i64 (x_1 + 1))
   )
   )
   )
  ) (
   some (Sum.inl ())
  )
 )) 0) fun o13 => (
  match o13 with
  | .inl _ => (
   some ((-1))
  )
  | .inr (r0) => (
   some r0
  ))

def slices_ContainsFunc_uint32_uint32_of_integer_Valid_1 (n : Nat) (s : List Int) : Option (Bool) :=
 bdO (slices_IndexFunc_uint32_uint32_of_integer_Valid_1 n s) fun v1 => (
 some (decide (v1 ≥ 0))
 )

def integer_Valid (n : Nat) (x' : api_Int) : Option (Bool) :=
 cdO (((x'.Groups.length : Int) : Int) == 0) (
  some (!x'.Negative)
 ) (
  gdO (inR (wrapF .i64 ((x'.Groups.length : Int) - 1)) x'.Groups.length) (
  cdO (((gt x'.Groups (wrapF .i64 ((x'.Groups.length : Int) - 1))) : Int) != 0) (
   bdO (slices_ContainsFunc_uint32_uint32_of_integer_Valid_1 n x'.Groups) fun v4 => (
   some (!v4)
   )
  ) (
   some (false)
  )
  )
 )

def integer_groups (n : Nat) (x' : api_Int) : Option (List Int) :=
 bdO (integer_Valid n x') fun v1 => (
 cdO (!v1) (
  some ([])
 ) (
  some (x'.Groups)
 )
 )

def integer_Sign (n : Nat) (x' : api_Int) : Option (Int) :=
 bdO (integer_groups n x') fun v1 => (
 cdO (((v1.length : Int) : Int) == 0) (
  some (0)
 ) (
  cdO x'.Negative (
   some ((-1))
  ) (
   some (1)
  )
 )
 )


def integer_split (n : Nat) (n' : Int) : Option (List Int) :=
 bdO (loopO (α := Int × List Int) (β := List Int) n (fun again7 (n_1, g_2) => (
  cdO (decide (n_1 > 0)) (
   gdO (decide ((g_2.length + 1) * 4 ≤ 140737488355328)) (
   gdO (decide (g_2.length + 1 ≤ 4611686018427387904)) (
   again7 (wrapF .u64 (n_1.tdiv 1000000000), g_2 ++ [wrapF .u32 (n_1.tmod 1000000000)])
   )
   )
  ) (
   some (g_2)
  )
 )) (n', [])) fun g_6 => (
  some (g_6)
 )

def integer_trim (n : Nat) (g : List Int) : Option (List Int) :=
 bdO (loopO (α := List Int) (β := List Int) n (fun again7 g_1 => (
  cdO (decide ((g_1.length : Int) > 0)) (
   gdO (inR (wrapF .i64 ((g_1.length : Int) - 1)) g_1.length) (
   cdO (((gt g_1 (wrapF .i64 ((g_1.length : Int) - 1))) : Int) == 0) (
    gdO (inS 0 (wrapF .i64 ((g_1.length : Int) - 1)) g_1.length) (
    again7 ((g_1.drop (0 : Int).toNat).take ((wrapF .i64 ((g_1.length : Int) - 1)).toNat - (0 : Int).toNat))
    )
   ) (
    some (g_1)
   )
   )
  ) (
   some (g_1)
  )
 )) g) fun g_6 => (
  some (g_6)
 )

def integer_made (n : Nat) (negative : Bool) (g : List Int) : Option (api_Int) :=
 bdO (integer_trim n g) fun v1 => (
 cdO (((v1.length : Int) : Int) == 0) (
  some (api_Int.mk false [])
 ) (
  some (api_Int.mk negative v1)
 )
 )



def integer_times (n : Nat) (a : List Int) (b : List Int) : Option (List Int) :=
 gdO (decide (0 ≤ wrapF .i64 ((a.length : Int) + (b.length : Int)))) (
 gdO (decide ((4 : Int) * (wrapF .i64 ((a.length : Int) + (b.length : Int))) ≤ 281474976710656)) (
 gdO (decide (wrapF .i64 ((a.length : Int) + (b.length : Int)) ≤ 9223372036854775807)) (
 bdO (loopO (α := List Int × Int) (β := List Int) n (fun again25 (o_4, x_5) => (
  cdO (decide (x_5 < (a.length : Int))) (
   gdO (inR x_5 a.length) (
   bdO (loopO (α := List Int × Int × Int) (β := List Int × Int) n (fun again36 (o_28, c_29, x_30) => (
    cdO (decide (x_30 < (b.length : Int))) (
     gdO (inR x_30 b.length) (
     gdO (inR (wrapF .i64 (x_5 + x_30)) o_28.length) (
     again36 (o_28.set (wrapF .i64 (x_5 + x_30)).toNat (wrapF .u32 ((wrapF .u64 ((wrapF .u64 ((wrapF .u64 (gt o_28 (wrapF .i64 (x_5 + x_30)))) + (wrapF .u64 ((wrapF .u64 (gt a x_5)) * (wrapF .u64 (gt b x_30)))))) + c_29)).tmod 1000000000)), wrapF .u64 ((wrapF .u64 ((wrapF .u64 ((wrapF .u64 (gt o_28 (wrapF .i64 (x_5 + x_30)))) + (wrapF .u64 ((wrapF .u64 (gt a x_5)) * (wrapF .u64 (gt b x_30)))))) + c_29)).tdiv 1000000000), wrapF .i64 (x_30 + 1))
     )
     )
    ) (
     some ((o_28, c_29))
    )
   )) (o_4, 0, 0)) fun o40 => (
    match o40 with
    | (o_34, c_35) => (
     gdO (inR (wrapF .i64 (x_5 + (b.length : Int))) o_34.length) (
     again25 (o_34.set (wrapF .i64 (x_5 + (b.length : Int))).toNat (wrapF .u32 c_35), wrapF .i64 (x_5 + 1))
     )
    ))
   )
  ) (
   some (o_4)
  )
 )) (List.replicate (wrapF .i64 ((a.length : Int) + (b.length : Int))).toNat ((0 : Int) : Int), 0)) fun o_24 => (
  bdO (integer_trim n o_24) fun v47 => (
  some (v47)
  )
 )
 )
 )
 )

def integer_trim_w (n : Nat) (g : List Int) : Option (List Int) :=
 bdO (loopO (α := List Int) (β := List Int) n (fun again22 g_16 => (
  cdO (decide ((g_16.length : Int) > 0)) (
   gdO (inR (wrapF .i64 ((g_16.length : Int) - 1)) g_16.length) (
   cdO (((gt g_16 (wrapF .i64 ((g_16.length : Int) - 1))) : Int) == 0) (
    gdO (inS 0 (wrapF .i64 ((g_16.length : Int) - 1)) g_16.length) (
    again22 (g_16.take (wrapF .i64 ((g_16.length : Int) - 1)).toNat)
    )
   ) (
    some (g_16)
   )
   )
  ) (
   some (g_16)
  )
 )) g) fun g_21 => (
  some (g_21)
 )

def integer_times_w (n : Nat) (a : List Int) (b : List Int) : Option (List Int) :=
 gdO (decide (0 ≤ wrapF .i64 ((a.length : Int) + (b.length : Int)))) (
 gdO (decide ((4 : Int) * (wrapF .i64 ((a.length : Int) + (b.length : Int))) ≤ 281474976710656)) (
 gdO (decide (wrapF .i64 ((a.length : Int) + (b.length : Int)) ≤ 9223372036854775807)) (
 bdO (loopO (α := List Int × Int) (β := List Int) n (fun again74 (o_53, x_54) => (
  cdO (decide (x_54 < (a.length : Int))) (
   gdO (inR x_54 a.length) (
   bdO (loopO (α := List Int × Int × Int) (β := List Int × Int) n (fun again85 (o_77, c_78, x_79) => (
    cdO (decide (x_79 < (b.length : Int))) (
     gdO (inR x_79 b.length) (
     gdO (inR (wrapF .i64 (x_54 + x_79)) o_77.length) (
     again85 (o_77.set (wrapF .i64 (x_54 + x_79)).toNat (wrapF .u32 ((wrapF .u64 ((wrapF .u64 ((wrapF .u64 (gt o_77 (wrapF .i64 (x_54 + x_79)))) + (wrapF .u64 ((wrapF .u64 (gt a x_54)) * (wrapF .u64 (gt b x_79)))))) + c_78)).tmod 1000000000)), wrapF .u64 ((wrapF .u64 ((wrapF .u64 ((wrapF .u64 (gt o_77 (wrapF .i64 (x_54 + x_79)))) + (wrapF .u64 ((wrapF .u64 (gt a x_54)) * (wrapF .u64 (gt b x_79)))))) + c_78)).tdiv 1000000000), wrapF .i64 (x_79 + 1))
     )
     )
    ) (
     some ((o_77, c_78))
    )
   )) (o_53, 0, 0)) fun o89 => (
    match o89 with
    | (o_83, c_84) => (
     gdO (inR (wrapF .i64 (x_54 + (b.length : Int))) o_83.length) (
     again74 (o_83.set (wrapF .i64 (x_54 + (b.length : Int))).toNat (wrapF .u32 c_84), wrapF .i64 (x_54 + 1))
     )
    ))
   )
  ) (
   some (o_53)
  )
 )) (List.replicate (wrapF .i64 ((a.length : Int) + (b.length : Int))).toNat ((0 : Int) : Int), 0)) fun o_73 => (
  bdO (integer_trim_w n o_73) fun v96 => (
  some (v96)
  )
 )
 )
 )
 )

def integer_at (n : Nat) (g : List Int) (i : Int) : Option (Int) :=
 cdO (decide (i < (g.length : Int))) (
  gdO (inR i g.length) (
  some ((gt g i))
  )
 ) (
  some (0)
 )

def integer_long (n : Nat) (a : List Int) (b : List Int) : Option (List Int × List Int) :=
 gdO (inR (wrapF .i64 ((b.length : Int) - 1)) b.length) (
 gdO (!decide (wrapF .u64 ((wrapF .u64 (gt b (wrapF .i64 ((b.length : Int) - 1)))) + 1) = 0)) (
 bdO (integer_times_w n a [wrapF .u32 (wrapF .u64 ((1000000000 : Int).tdiv (wrapF .u64 ((wrapF .u64 (gt b (wrapF .i64 ((b.length : Int) - 1)))) + 1))))]) fun v3 => (
 bdO (integer_times_w n b [wrapF .u32 (wrapF .u64 ((1000000000 : Int).tdiv (wrapF .u64 ((wrapF .u64 (gt b (wrapF .i64 ((b.length : Int) - 1)))) + 1))))]) fun v5 => (
 gdO (decide ((v3.length + 1) * 4 ≤ 140737488355328)) (
 gdO (decide (v3.length + 1 ≤ 4611686018427387904)) (
 bdO (α := List Int) (
  cdO (decide (((v3 ++ [(0 : Int)]).length : Int) ≤ (a.length : Int))) (
   gdO (decide (((v3 ++ [(0 : Int)]).length + 1) * 4 ≤ 140737488355328)) (
   gdO (decide ((v3 ++ [(0 : Int)]).length + 1 ≤ 4611686018427387904)) (
   some ((v3 ++ [(0 : Int)]) ++ [(0 : Int)])
   )
   )
  ) (
   some (v3 ++ [(0 : Int)])
  )
 ) fun u_9 => (
  gdO (decide (0 ≤ wrapF .i64 ((u_9.length : Int) - (v5.length : Int)))) (
  gdO (decide ((4 : Int) * (wrapF .i64 ((u_9.length : Int) - (v5.length : Int))) ≤ 281474976710656)) (
  gdO (decide (wrapF .i64 ((u_9.length : Int) - (v5.length : Int)) ≤ 9223372036854775807)) (
  bdO (loopO (α := List Int × List Int × Int) (β := List Int × List Int) n (fun again129 (q_19, u_20, j_21) => (
   cdO (decide (j_21 ≥ 0)) (
    bdO (integer_at n u_20 (wrapF .i64 (j_21 + (v5.length : Int)))) fun v132 => (
    gdO (inR (wrapF .i64 ((wrapF .i64 (j_21 + (v5.length : Int))) - 1)) u_20.length) (
    gdO (inR (wrapF .i64 ((v5.length : Int) - 1)) v5.length) (
    gdO (!decide (wrapF .u64 (gt v5 (wrapF .i64 ((v5.length : Int) - 1))) = 0)) (
    bdO (loopO (α := Int × Int) (β := Int) n (fun again165 (g_156, r_157) => (
     cdO (decide (g_156 ≥ 1000000000)) (
      cdO (decide ((wrapF .u64 (r_157 + (wrapF .u64 (gt v5 (wrapF .i64 ((v5.length : Int) - 1)))))) ≥ 1000000000)) (
       some (wrapF .u64 (g_156 - 1))
      ) (
       again165 (wrapF .u64 (g_156 - 1), wrapF .u64 (r_157 + (wrapF .u64 (gt v5 (wrapF .i64 ((v5.length : Int) - 1))))))
      )
     ) (
      gdO (inR (wrapF .i64 ((v5.length : Int) - 2)) v5.length) (
      gdO (inR (wrapF .i64 ((wrapF .i64 (j_21 + (v5.length : Int))) - 2)) u_20.length) (
      cdO (decide ((wrapF .u64 (g_156 * (wrapF .u64 (gt v5 (wrapF .i64 ((v5.length : Int) - 2)))))) > (wrapF .u64 ((wrapF .u64 (r_157 * 1000000000)) + (wrapF .u64 (gt u_20 (wrapF .i64 ((wrapF .i64 (j_21 + (v5.length : Int))) - 2)))))))) (
       cdO (decide ((wrapF .u64 (r_157 + (wrapF .u64 (gt v5 (wrapF .i64 ((v5.length : Int) - 1)))))) ≥ 1000000000)) (
        some (wrapF .u64 (g_156 - 1))
       ) (
        again165 (wrapF .u64 (g_156 - 1), wrapF .u64 (r_157 + (wrapF .u64 (gt v5 (wrapF .i64 ((v5.length : Int) - 1))))))
       )
      ) (
       some (g_156)
      )
      )
      )
     )
    )) (wrapF .u64 ((wrapF .u64 ((wrapF .u64 ((wrapF .u64 v132) * 1000000000)) + (wrapF .u64 (gt u_20 (wrapF .i64 ((wrapF .i64 (j_21 + (v5.length : Int))) - 1)))))).tdiv (wrapF .u64 (gt v5 (wrapF .i64 ((v5.length : Int) - 1))))), (wrapF .u64 ((wrapF .u64 ((wrapF .u64 v132) * 1000000000)) + (wrapF .u64 (gt u_20 (wrapF .i64 ((wrapF .i64 (j_21 + (v5.length : Int))) - 1)))))).tmod (wrapF .u64 (gt v5 (wrapF .i64 ((v5.length : Int) - 1)))))) fun g_164 => (
     bdO (loopO (α := List Int × Int × Int × Int) (β := List Int × Int × Int) n (fun again205 (u_194, b_195, c_196, x_197) => (
      cdO (decide (x_197 < (v5.length : Int))) (
       gdO (inR x_197 v5.length) (
       gdO (inR (wrapF .i64 (x_197 + j_21)) u_194.length) (
       cdO (decide ((wrapF .i64 ((wrapF .i64 ((wrapF .i64 (gt u_194 (wrapF .i64 (x_197 + j_21)))) - b_195)) - (wrapF .i64 ((wrapF .u64 ((wrapF .u64 (g_164 * (wrapF .u64 (gt v5 x_197)))) + c_196)).tmod 1000000000)))) < 0)) (
        again205 (u_194.set (wrapF .i64 (x_197 + j_21)).toNat (wrapF .u32 (wrapF .i64 ((wrapF .i64 ((wrapF .i64 ((wrapF .i64 (gt u_194 (wrapF .i64 (x_197 + j_21)))) - b_195)) - (wrapF .i64 ((wrapF .u64 ((wrapF .u64 (g_164 * (wrapF .u64 (gt v5 x_197)))) + c_196)).tmod 1000000000)))) + 1000000000))), 1, wrapF .u64 ((wrapF .u64 ((wrapF .u64 (g_164 * (wrapF .u64 (gt v5 x_197)))) + c_196)).tdiv 1000000000), wrapF .i64 (x_197 + 1))
       ) (
        again205 (u_194.set (wrapF .i64 (x_197 + j_21)).toNat (wrapF .u32 (wrapF .i64 ((wrapF .i64 ((wrapF .i64 (gt u_194 (wrapF .i64 (x_197 + j_21)))) - b_195)) - (wrapF .i64 ((wrapF .u64 ((wrapF .u64 (g_164 * (wrapF .u64 (gt v5 x_197)))) + c_196)).tmod 1000000000))))), 0, wrapF .u64 ((wrapF .u64 ((wrapF .u64 (g_164 * (wrapF .u64 (gt v5 x_197)))) + c_196)).tdiv 1000000000), wrapF .i64 (x_197 + 1))
       )
       )
       )
      ) (
       some ((u_194, b_195, c_196))
      )
     )) (u_20, 0, 0, 0)) fun o210 => (
      match o210 with
      | (u_202, b_203, c_204) => (
       gdO (inR (wrapF .i64 (j_21 + (v5.length : Int))) u_202.length) (
       cdO (decide ((wrapF .i64 ((wrapF .i64 ((wrapF .i64 (gt u_202 (wrapF .i64 (j_21 + (v5.length : Int))))) - b_203)) - (wrapF .i64 c_204))) < 0)) (
        bdO (loopO (α := List Int × Int × Int) (β := List Int × Int) n (fun again224 (u_215, c_216, x_217) => (
         cdO (decide (x_217 < (v5.length : Int))) (
          gdO (inR (wrapF .i64 (x_217 + j_21)) u_215.length) (
          gdO (inR x_217 v5.length) (
          cdO (decide ((wrapF .u32 ((wrapF .u32 ((gt u_215 (wrapF .i64 (x_217 + j_21))) + (gt v5 x_217))) + c_216)) ≥ 1000000000)) (
           again224 (u_215.set (wrapF .i64 (x_217 + j_21)).toNat (wrapF .u32 ((wrapF .u32 ((wrapF .u32 ((gt u_215 (wrapF .i64 (x_217 + j_21))) + (gt v5 x_217))) + c_216)) - 1000000000)), 1, wrapF .i64 (x_217 + 1))
          ) (
           again224 (u_215.set (wrapF .i64 (x_217 + j_21)).toNat (wrapF .u32 ((wrapF .u32 ((gt u_215 (wrapF .i64 (x_217 + j_21))) + (gt v5 x_217))) + c_216)), 0, wrapF .i64 (x_217 + 1))
          )
          )
          )
         ) (
          some ((u_215, c_216))
         )
        )) (u_202.set (wrapF .i64 (j_21 + (v5.length : Int))).toNat (wrapF .u32 (wrapF .i64 ((wrapF .i64 ((wrapF .i64 ((wrapF .i64 (gt u_202 (wrapF .i64 (j_21 + (v5.length : Int))))) - b_203)) - (wrapF .i64 c_204))) + 1000000000))), 0, 0)) fun o229 => (
         match o229 with
         | (u_222, c_223) => (
          gdO (inR (wrapF .i64 (j_21 + (v5.length : Int))) u_222.length) (
          gdO (inR j_21 q_19.length) (
          again129 (q_19.set j_21.toNat (wrapF .u32 (wrapF .u64 (g_164 - 1))), u_222.set (wrapF .i64 (j_21 + (v5.length : Int))).toNat ((wrapF .u32 ((gt u_222 (wrapF .i64 (j_21 + (v5.length : Int)))) + c_223)).tmod 1000000000), wrapF .i64 (j_21 - 1))
          )
          )
         ))
       ) (
        gdO (inR j_21 q_19.length) (
        again129 (q_19.set j_21.toNat (wrapF .u32 g_164), u_202.set (wrapF .i64 (j_21 + (v5.length : Int))).toNat (wrapF .u32 (wrapF .i64 ((wrapF .i64 ((wrapF .i64 (gt u_202 (wrapF .i64 (j_21 + (v5.length : Int))))) - b_203)) - (wrapF .i64 c_204)))), wrapF .i64 (j_21 - 1))
        )
       )
       )
      ))
    )
    )
    )
    )
    )
   ) (
    some ((q_19, u_20))
   )
  )) (List.replicate (wrapF .i64 ((u_9.length : Int) - (v5.length : Int))).toNat ((0 : Int) : Int), u_9, wrapF .i64 ((wrapF .i64 ((u_9.length : Int) - (v5.length : Int))) - 1))) fun o235 => (
   match o235 with
   | (q_127, u_128) => (
    gdO (inS 0 (v5.length : Int) u_128.length) (
    bdO (integer_trim n (u_128.take (v5.length : Int).toNat)) fun v239 => (
    bdO (integer_short n v239 (wrapF .u32 (wrapF .u64 ((1000000000 : Int).tdiv (wrapF .u64 ((wrapF .u64 (gt b (wrapF .i64 ((b.length : Int) - 1)))) + 1)))))) fun v241 => (
    bdO (integer_trim n q_127) fun v243 => (
    some ((v243, v241.1))
    )
    )
    )
    )
   ))
  )
  )
  )
 )
 )
 )
 )
 )
 )
 )

def integer_over (n : Nat) (a : List Int) (b : List Int) : Option (List Int × List Int) :=
 bdO (integer_compare n a b) fun v1 => (
 cdO (decide (v1 < 0)) (
  some (([], a))
 ) (
  bdO (integer_word n a) fun v4 => (
  bdO (integer_word n b) fun v6 => (
  cdO v4.2 (
   cdO v6.2 (
    gdO (!decide (v6.1 = 0)) (
    bdO (integer_split n (wrapF .u64 (v4.1.tdiv v6.1))) fun v11 => (
    bdO (integer_split n (v4.1.tmod v6.1)) fun v13 => (
    some ((v11, v13))
    )
    )
    )
   ) (
    cdO (((b.length : Int) : Int) == 1) (
     gdO (inR 0 b.length) (
     bdO (integer_short n a (gt b 0)) fun v17 => (
     bdO (integer_split n (wrapF .u64 v17.2)) fun v19 => (
     some ((v17.1, v19))
     )
     )
     )
    ) (
     bdO (integer_long n a b) fun v21 => (
     some ((v21.1, v21.2))
     )
    )
   )
  ) (
   cdO (((b.length : Int) : Int) == 1) (
    gdO (inR 0 b.length) (
    bdO (integer_short n a (gt b 0)) fun v25 => (
    bdO (integer_split n (wrapF .u64 v25.2)) fun v27 => (
    some ((v25.1, v27))
    )
    )
    )
   ) (
    bdO (integer_long n a b) fun v29 => (
    some ((v29.1, v29.2))
    )
   )
  )
  )
  )
 )
 )

def slices_Clone_uint32_uint32 (n : Nat) (s : List Int) : Option (List Int) :=
 gdO (decide ((0 + s.length) * 4 ≤ 140737488355328)) (
 gdO (decide (0 + s.length ≤ 4611686018427387904)) (
 some (s)
 )
 )

def integer_Gcd (n : Nat) (x' : api_Int) (y : api_Int) : Option (api_Int) :=
 bdO (integer_groups n x') fun v1 => (
 bdO (integer_groups n y) fun v3 => (
 bdO (loopO (α := List Int × List Int) (β := Sum (List Int) (api_Int)) n (fun again34 (a_5, b_6) => (
  cdO (decide ((b_6.length : Int) > 0)) (
   bdO (integer_word n a_5) fun v36 => (
   bdO (integer_word n b_6) fun v38 => (
   cdO v36.2 (
    cdO v38.2 (
     bdO (loopO (α := Int × Int) (β := Int) n (fun again47 (m_42, n_43) => (
      cdO (decide (n_43 > 0)) (
       gdO (!decide (n_43 = 0)) (
       again47 (n_43, m_42.tmod n_43)
       )
      ) (
       some (m_42)
      )
     )) (v36.1, v38.1)) fun m_46 => (
      bdO (integer_split n m_46) fun v53 => (
      bdO (integer_made n false v53) fun v55 => (
      some (Sum.inr (v55))
      )
      )
     )
    ) (
     bdO (integer_over n a_5 b_6) fun v57 => (
     again34 (b_6, v57.2)
     )
    )
   ) (
    bdO (integer_over n a_5 b_6) fun v59 => (
    again34 (b_6, v59.2)
    )
   )
   )
   )
  ) (
   some (Sum.inl a_5)
  )
 )) (v1, v3)) fun o61 => (
  match o61 with
  | .inl a_33 => (
   bdO (slices_Clone_uint32_uint32 n a_33) fun v64 => (
   bdO (integer_made n false v64) fun v66 => (
   some (v66)
   )
   )
  )
  | .inr (r0) => (
   some r0
  ))
 )
 )

def integer_Of (n : Nat) (n' : Int) : Option (api_Int) :=
 cdO (decide (n' < 0)) (
  bdO (integer_split n (wrapF .u64 (0 - (wrapF .u64 n')))) fun v2 => (
  bdO (integer_made n true v2) fun v4 => (
  some (v4)
  )
  )
 ) (
  bdO (integer_split n (wrapF .u64 n')) fun v6 => (
  bdO (integer_made n false v6) fun v8 => (
  some (v8)
  )
  )
 )

def cmp_isNaN_int (n : Nat) (x' : Int) : Option (Bool) :=
 some ((x' : Int) != x')

def cmp_Compare_int (n : Nat) (x' : Int) (y : Int) : Option (Int) :=
 bdO (cmp_isNaN_int n x') fun v1 => (
 bdO (cmp_isNaN_int n y) fun v3 => (
 cdO v1 (
  cdO v3 (
   some (0)
  ) (
   some ((-1))
  )
 ) (
  cdO v3 (
   some (1)
  ) (
   cdO (decide (x' < y)) (
    some ((-1))
   ) (
    cdO (decide (x' > y)) (
     some (1)
    ) (
     some (0)
    )
   )
  )
 )
 )
 )

def integer_Compare (n : Nat) (x' : api_Int) (y : api_Int) : Option (Int) :=
 bdO (integer_Sign n x') fun v1 => (
 bdO (integer_Sign n y) fun v3 => (
 cdO ((v1 : Int) != v3) (
  bdO (cmp_Compare_int n v1 v3) fun v6 => (
  some (v6)
  )
 ) (
  bdO (integer_groups n x') fun v8 => (
  bdO (integer_groups n y) fun v10 => (
  bdO (integer_compare n v8 v10) fun v12 => (
  cdO x'.Negative (
   some (wrapF .i64 (0 - v12))
  ) (
   some (v12)
  )
  )
  )
  )
 )
 )
 )

def fraction_Valid (n : Nat) (x' : api_Rat) : Option (Bool) :=
 bdO (integer_Valid n x'.Num) fun v1 => (
 cdO (!v1) (
  some (false)
 ) (
  bdO (integer_Valid n x'.Den) fun v4 => (
  cdO (!v4) (
   some (false)
  ) (
   bdO (integer_Sign n x'.Den) fun v7 => (
   cdO (decide (v7 ≤ 0)) (
    some (false)
   ) (
    bdO (integer_Gcd n x'.Num x'.Den) fun v10 => (
    bdO (integer_Of n 1) fun v12 => (
    bdO (integer_Compare n v10 v12) fun v14 => (
    some ((v14 : Int) == 0)
    )
    )
    )
   )
   )
  )
  )
 )
 )

def integer_Neg (n : Nat) (x' : api_Int) : Option (api_Int) :=
 bdO (integer_groups n x') fun v1 => (
 bdO (slices_Clone_uint32_uint32 n v1) fun v3 => (
 bdO (integer_made n (!x'.Negative) v3) fun v5 => (
 some (v5)
 )
 )
 )

def fraction_copied (n : Nat) (x' : api_Rat) : Option (api_Rat) :=
 bdO (integer_Neg n x'.Num) fun v1 => (
 bdO (integer_Neg n v1) fun v3 => (
 bdO (integer_Neg n x'.Den) fun v5 => (
 bdO (integer_Neg n v5) fun v7 => (
 some (api_Rat.mk v3 v7)
 )
 )
 )
 )

def fraction_Whole (n : Nat) (n' : Int) : Option (api_Rat) :=
 bdO (integer_Of n n') fun v1 => (
 bdO (integer_Of n 1) fun v3 => (
 some (api_Rat.mk v1 v3)
 )
 )

def fraction_Value (n : Nat) (x' : api_Rat) : Option (api_Rat) :=
 bdO (fraction_Valid n x') fun v1 => (
 cdO v1 (
  bdO (fraction_copied n x') fun v4 => (
  some (v4)
  )
 ) (
  bdO (fraction_Whole n 0) fun v6 => (
  some (v6)
  )
 )
 )

def math_bits_Len64 (n : Nat) (x' : Int) : Option (Int) :=
 cdO (decide (x' ≥ 4294967296)) (
  cdO (decide ((x'.fdiv (2 ^ 32)) ≥ 65536)) (
   cdO (decide (((x'.fdiv (2 ^ 32)).fdiv (2 ^ 16)) ≥ 256)) (
    bdO (some (((x'.fdiv (2 ^ 32)).fdiv (2 ^ 16)).fdiv (2 ^ 8))) fun w4 => (
    gdO (inR (wrapF .u8 w4) 256) (
    some (wrapF .i64 (56 + (wrapF .i64 (strAt ⟨#[0, 1, 2, 2, 3, 3, 3, 3, 4, 4, 4, 4, 4, 4, 4, 4, 5, 5, 5, 5, 5, 5, 5, 5, 5, 5, 5, 5, 5, 5, 5, 5, 6, 6, 6, 6, 6, 6, 6, 6, 6, 6, 6, 6, 6, 6, 6, 6, 6, 6, 6, 6, 6, 6, 6, 6, 6, 6, 6, 6, 6, 6, 6, 6, 7, 7, 7, 7, 7, 7, 7, 7, 7, 7, 7, 7, 7, 7, 7, 7, 7, 7, 7, 7, 7, 7, 7, 7, 7, 7, 7, 7, 7, 7, 7, 7, 7, 7, 7, 7, 7, 7, 7, 7, 7, 7, 7, 7, 7, 7, 7, 7, 7, 7, 7, 7, 7, 7, 7, 7, 7, 7, 7, 7, 7, 7, 7, 7, 8, 8, 8, 8, 8, 8, 8, 8, 8, 8, 8, 8, 8, 8, 8, 8, 8, 8, 8, 8, 8, 8, 8, 8, 8, 8, 8, 8, 8, 8, 8, 8, 8, 8, 8, 8, 8, 8, 8, 8, 8, 8, 8, 8, 8, 8, 8, 8, 8, 8, 8, 8, 8, 8, 8, 8, 8, 8, 8, 8, 8, 8, 8, 8, 8, 8, 8, 8, 8, 8, 8, 8, 8, 8, 8, 8, 8, 8, 8, 8, 8, 8, 8, 8, 8, 8, 8, 8, 8, 8, 8, 8, 8, 8, 8, 8, 8, 8, 8, 8, 8, 8, 8, 8, 8, 8, 8, 8, 8, 8, 8, 8, 8, 8, 8, 8, 8, 8, 8, 8, 8, 8, 8, 8, 8, 8, 8, 8]⟩ (wrapF .u8 w4)))))
    )
    )
   ) (
    gdO (inR (wrapF .u8 ((x'.fdiv (2 ^ 32)).fdiv (2 ^ 16))) 256) (
    some (wrapF .i64 (48 + (wrapF .i64 (strAt ⟨#[0, 1, 2, 2, 3, 3, 3, 3, 4, 4, 4, 4, 4, 4, 4, 4, 5, 5, 5, 5, 5, 5, 5, 5, 5, 5, 5, 5, 5, 5, 5, 5, 6, 6, 6, 6, 6, 6, 6, 6, 6, 6, 6, 6, 6, 6, 6, 6, 6, 6, 6, 6, 6, 6, 6, 6, 6, 6, 6, 6, 6, 6, 6, 6, 7, 7, 7, 7, 7, 7, 7, 7, 7, 7, 7, 7, 7, 7, 7, 7, 7, 7, 7, 7, 7, 7, 7, 7, 7, 7, 7, 7, 7, 7, 7, 7, 7, 7, 7, 7, 7, 7, 7, 7, 7, 7, 7, 7, 7, 7, 7, 7, 7, 7, 7, 7, 7, 7, 7, 7, 7, 7, 7, 7, 7, 7, 7, 7, 8, 8, 8, 8, 8, 8, 8, 8, 8, 8, 8, 8, 8, 8, 8, 8, 8, 8, 8, 8, 8, 8, 8, 8, 8, 8, 8, 8, 8, 8, 8, 8, 8, 8, 8, 8, 8, 8, 8, 8, 8, 8, 8, 8, 8, 8, 8, 8, 8, 8, 8, 8, 8, 8, 8, 8, 8, 8, 8, 8, 8, 8, 8, 8, 8, 8, 8, 8, 8, 8, 8, 8, 8, 8, 8, 8, 8, 8, 8, 8, 8, 8, 8, 8, 8, 8, 8, 8, 8, 8, 8, 8, 8, 8, 8, 8, 8, 8, 8, 8, 8, 8, 8, 8, 8, 8, 8, 8, 8, 8, 8, 8, 8, 8, 8, 8, 8, 8, 8, 8, 8, 8, 8, 8, 8, 8, 8, 8]⟩ (wrapF .u8 ((x'.fdiv (2 ^ 32)).fdiv (2 ^ 16)))))))
    )
   )
  ) (
   cdO (decide ((x'.fdiv (2 ^ 32)) ≥ 256)) (
    gdO (inR (wrapF .u8 ((x'.fdiv (2 ^ 32)).fdiv (2 ^ 8))) 256) (
    some (wrapF .i64 (40 + (wrapF .i64 (strAt ⟨#[0, 1, 2, 2, 3, 3, 3, 3, 4, 4, 4, 4, 4, 4, 4, 4, 5, 5, 5, 5, 5, 5, 5, 5, 5, 5, 5, 5, 5, 5, 5, 5, 6, 6, 6, 6, 6, 6, 6, 6, 6, 6, 6, 6, 6, 6, 6, 6, 6, 6, 6, 6, 6, 6, 6, 6, 6, 6, 6, 6, 6, 6, 6, 6, 7, 7, 7, 7, 7, 7, 7, 7, 7, 7, 7, 7, 7, 7, 7, 7, 7, 7, 7, 7, 7, 7, 7, 7, 7, 7, 7, 7, 7, 7, 7, 7, 7, 7, 7, 7, 7, 7, 7, 7, 7, 7, 7, 7, 7, 7, 7, 7, 7, 7, 7, 7, 7, 7, 7, 7, 7, 7, 7, 7, 7, 7, 7, 7, 8, 8, 8, 8, 8, 8, 8, 8, 8, 8, 8, 8, 8, 8, 8, 8, 8, 8, 8, 8, 8, 8, 8, 8, 8, 8, 8, 8, 8, 8, 8, 8, 8, 8, 8, 8, 8, 8, 8, 8, 8, 8, 8, 8, 8, 8, 8, 8, 8, 8, 8, 8, 8, 8, 8, 8, 8, 8, 8, 8, 8, 8, 8, 8, 8, 8, 8, 8, 8, 8, 8, 8, 8, 8, 8, 8, 8, 8, 8, 8, 8, 8, 8, 8, 8, 8, 8, 8, 8, 8, 8, 8, 8, 8, 8, 8, 8, 8, 8, 8, 8, 8, 8, 8, 8, 8, 8, 8, 8, 8, 8, 8, 8, 8, 8, 8, 8, 8, 8, 8, 8, 8, 8, 8, 8, 8, 8, 8]⟩ (wrapF .u8 ((x'.fdiv (2 ^ 32)).fdiv (2 ^ 8)))))))
    )
   ) (
    gdO (inR (wrapF .u8 (x'.fdiv (2 ^ 32))) 256) (
    some (wrapF .i64 (32 + (wrapF .i64 (strAt ⟨#[0, 1, 2, 2, 3, 3, 3, 3, 4, 4, 4, 4, 4, 4, 4, 4, 5, 5, 5, 5, 5, 5, 5, 5, 5, 5, 5, 5, 5, 5, 5, 5, 6, 6, 6, 6, 6, 6, 6, 6, 6, 6, 6, 6, 6, 6, 6, 6, 6, 6, 6, 6, 6, 6, 6, 6, 6, 6, 6, 6, 6, 6, 6, 6, 7, 7, 7, 7, 7, 7, 7, 7, 7, 7, 7, 7, 7, 7, 7, 7, 7, 7, 7, 7, 7, 7, 7, 7, 7, 7, 7, 7, 7, 7, 7, 7, 7, 7, 7, 7, 7, 7, 7, 7, 7, 7, 7, 7, 7, 7, 7, 7, 7, 7, 7, 7, 7, 7, 7, 7, 7, 7, 7, 7, 7, 7, 7, 7, 8, 8, 8, 8, 8, 8, 8, 8, 8, 8, 8, 8, 8, 8, 8, 8, 8, 8, 8, 8, 8, 8, 8, 8, 8, 8, 8, 8, 8, 8, 8, 8, 8, 8, 8, 8, 8, 8, 8, 8, 8, 8, 8, 8, 8, 8, 8, 8, 8, 8, 8, 8, 8, 8, 8, 8, 8, 8, 8, 8, 8, 8, 8, 8, 8, 8, 8, 8, 8, 8, 8, 8, 8, 8, 8, 8, 8, 8, 8, 8, 8, 8, 8, 8, 8, 8, 8, 8, 8, 8, 8, 8, 8, 8, 8, 8, 8, 8, 8, 8, 8, 8, 8, 8, 8, 8, 8, 8, 8, 8, 8, 8, 8, 8, 8, 8, 8, 8, 8, 8, 8, 8, 8, 8, 8, 8, 8, 8]⟩ (wrapF .u8 (x'.fdiv (2 ^ 32)))))))
    )
   )
  )
 ) (
  cdO (decide (x' ≥ 65536)) (
   cdO (decide ((x'.fdiv (2 ^ 16)) ≥ 256)) (
    gdO (inR (wrapF .u8 ((x'.fdiv (2 ^ 16)).fdiv (2 ^ 8))) 256) (
    some (wrapF .i64 (24 + (wrapF .i64 (strAt ⟨#[0, 1, 2, 2, 3, 3, 3, 3, 4, 4, 4, 4, 4, 4, 4, 4, 5, 5, 5, 5, 5, 5, 5, 5, 5, 5, 5, 5, 5, 5, 5, 5, 6, 6, 6, 6, 6, 6, 6, 6, 6, 6, 6, 6, 6, 6, 6, 6, 6, 6, 6, 6, 6, 6, 6, 6, 6, 6, 6, 6, 6, 6, 6, 6, 7, 7, 7, 7, 7, 7, 7, 7, 7, 7, 7, 7, 7, 7, 7, 7, 7, 7, 7, 7, 7, 7, 7, 7, 7, 7, 7, 7, 7, 7, 7, 7, 7, 7, 7, 7, 7, 7, 7, 7, 7, 7, 7, 7, 7, 7, 7, 7, 7, 7, 7, 7, 7, 7, 7, 7, 7, 7, 7, 7, 7, 7, 7, 7, 8, 8, 8, 8, 8, 8, 8, 8, 8, 8, 8, 8, 8, 8, 8, 8, 8, 8, 8, 8, 8, 8, 8, 8, 8, 8, 8, 8, 8, 8, 8, 8, 8, 8, 8, 8, 8, 8, 8, 8, 8, 8, 8, 8, 8, 8, 8, 8, 8, 8, 8, 8, 8, 8, 8, 8, 8, 8, 8, 8, 8, 8, 8, 8, 8, 8, 8, 8, 8, 8, 8, 8, 8, 8, 8, 8, 8, 8, 8, 8, 8, 8, 8, 8, 8, 8, 8, 8, 8, 8, 8, 8, 8, 8, 8, 8, 8, 8, 8, 8, 8, 8, 8, 8, 8, 8, 8, 8, 8, 8, 8, 8, 8, 8, 8, 8, 8, 8, 8, 8, 8, 8, 8, 8, 8, 8, 8, 8]⟩ (wrapF .u8 ((x'.fdiv (2 ^ 16)).fdiv (2 ^ 8)))))))
    )
   ) (
    gdO (inR (wrapF .u8 (x'.fdiv (2 ^ 16))) 256) (
    some (wrapF .i64 (16 + (wrapF .i64 (strAt ⟨#[0, 1, 2, 2, 3, 3, 3, 3, 4, 4, 4, 4, 4, 4, 4, 4, 5, 5, 5, 5, 5, 5, 5, 5, 5, 5, 5, 5, 5, 5, 5, 5, 6, 6, 6, 6, 6, 6, 6, 6, 6, 6, 6, 6, 6, 6, 6, 6, 6, 6, 6, 6, 6, 6, 6, 6, 6, 6, 6, 6, 6, 6, 6, 6, 7, 7, 7, 7, 7, 7, 7, 7, 7, 7, 7, 7, 7, 7, 7, 7, 7, 7, 7, 7, 7, 7, 7, 7, 7, 7, 7, 7, 7, 7, 7, 7, 7, 7, 7, 7, 7, 7, 7, 7, 7, 7, 7, 7, 7, 7, 7, 7, 7, 7, 7, 7, 7, 7, 7, 7, 7, 7, 7, 7, 7, 7, 7, 7, 8, 8, 8, 8, 8, 8, 8, 8, 8, 8, 8, 8, 8, 8, 8, 8, 8, 8, 8, 8, 8, 8, 8, 8, 8, 8, 8, 8, 8, 8, 8, 8, 8, 8, 8, 8, 8, 8, 8, 8, 8, 8, 8, 8, 8, 8, 8, 8, 8, 8, 8, 8, 8, 8, 8, 8, 8, 8, 8, 8, 8, 8, 8, 8, 8, 8, 8, 8, 8, 8, 8, 8, 8, 8, 8, 8, 8, 8, 8, 8, 8, 8, 8, 8, 8, 8, 8, 8, 8, 8, 8, 8, 8, 8, 8, 8, 8, 8, 8, 8, 8, 8, 8, 8, 8, 8, 8, 8, 8, 8, 8, 8, 8, 8, 8, 8, 8, 8, 8, 8, 8, 8, 8, 8, 8, 8, 8, 8]⟩ (wrapF .u8 (x'.fdiv (2 ^ 16)))))))
    )
   )
  ) (
   cdO (decide (x' ≥ 256)) (
    gdO (inR (wrapF .u8 (x'.fdiv (2 ^ 8))) 256) (
    some (wrapF .i64 (8 + (wrapF .i64 (strAt ⟨#[0, 1, 2, 2, 3, 3, 3, 3, 4, 4, 4, 4, 4, 4, 4, 4, 5, 5, 5, 5, 5, 5, 5, 5, 5, 5, 5, 5, 5, 5, 5, 5, 6, 6, 6, 6, 6, 6, 6, 6, 6, 6, 6, 6, 6, 6, 6, 6, 6, 6, 6, 6, 6, 6, 6, 6, 6, 6, 6, 6, 6, 6, 6, 6, 7, 7, 7, 7, 7, 7, 7, 7, 7, 7, 7, 7, 7, 7, 7, 7, 7, 7, 7, 7, 7, 7, 7, 7, 7, 7, 7, 7, 7, 7, 7, 7, 7, 7, 7, 7, 7, 7, 7, 7, 7, 7, 7, 7, 7, 7, 7, 7, 7, 7, 7, 7, 7, 7, 7, 7, 7, 7, 7, 7, 7, 7, 7, 7, 8, 8, 8, 8, 8, 8, 8, 8, 8, 8, 8, 8, 8, 8, 8, 8, 8, 8, 8, 8, 8, 8, 8, 8, 8, 8, 8, 8, 8, 8, 8, 8, 8, 8, 8, 8, 8, 8, 8, 8, 8, 8, 8, 8, 8, 8, 8, 8, 8, 8, 8, 8, 8, 8, 8, 8, 8, 8, 8, 8, 8, 8, 8, 8, 8, 8, 8, 8, 8, 8, 8, 8, 8, 8, 8, 8, 8, 8, 8, 8, 8, 8, 8, 8, 8, 8, 8, 8, 8, 8, 8, 8, 8, 8, 8, 8, 8, 8, 8, 8, 8, 8, 8, 8, 8, 8, 8, 8, 8, 8, 8, 8, 8, 8, 8, 8, 8, 8, 8, 8, 8, 8, 8, 8, 8, 8, 8, 8]⟩ (wrapF .u8 (x'.fdiv (2 ^ 8)))))))
    )
   ) (
    gdO (inR (wrapF .u8 x') 256) (
    some (wrapF .i64 (0 + (wrapF .i64 (strAt ⟨#[0, 1, 2, 2, 3, 3, 3, 3, 4, 4, 4, 4, 4, 4, 4, 4, 5, 5, 5, 5, 5, 5, 5, 5, 5, 5, 5, 5, 5, 5, 5, 5, 6, 6, 6, 6, 6, 6, 6, 6, 6, 6, 6, 6, 6, 6, 6, 6, 6, 6, 6, 6, 6, 6, 6, 6, 6, 6, 6, 6, 6, 6, 6, 6, 7, 7, 7, 7, 7, 7, 7, 7, 7, 7, 7, 7, 7, 7, 7, 7, 7, 7, 7, 7, 7, 7, 7, 7, 7, 7, 7, 7, 7, 7, 7, 7, 7, 7, 7, 7, 7, 7, 7, 7, 7, 7, 7, 7, 7, 7, 7, 7, 7, 7, 7, 7, 7, 7, 7, 7, 7, 7, 7, 7, 7, 7, 7, 7, 8, 8, 8, 8, 8, 8, 8, 8, 8, 8, 8, 8, 8, 8, 8, 8, 8, 8, 8, 8, 8, 8, 8, 8, 8, 8, 8, 8, 8, 8, 8, 8, 8, 8, 8, 8, 8, 8, 8, 8, 8, 8, 8, 8, 8, 8, 8, 8, 8, 8, 8, 8, 8, 8, 8, 8, 8, 8, 8, 8, 8, 8, 8, 8, 8, 8, 8, 8, 8, 8, 8, 8, 8, 8, 8, 8, 8, 8, 8, 8, 8, 8, 8, 8, 8, 8, 8, 8, 8, 8, 8, 8, 8, 8, 8, 8, 8, 8, 8, 8, 8, 8, 8, 8, 8, 8, 8, 8, 8, 8, 8, 8, 8, 8, 8, 8, 8, 8, 8, 8, 8, 8, 8, 8, 8, 8, 8, 8]⟩ (wrapF .u8 x')))))
    )
   )
  )
 )

def math_bits_Len (n : Nat) (x' : Int) : Option (Int) :=
 bdO (math_bits_Len64 n x') fun v1 => (
 some (v1)
 )

def integer_Mul (n : Nat) (x' : api_Int) (y : api_Int) : Option (api_Int) :=
 bdO (integer_groups n x') fun v1 => (
 bdO (integer_groups n y) fun v3 => (
 bdO (integer_times n v1 v3) fun v5 => (
 bdO (integer_made n (x'.Negative != y.Negative) v5) fun v7 => (
 some (v7)
 )
 )
 )
 )

def fraction_Compare (n : Nat) (x' : api_Rat) (y : api_Rat) : Option (Int) :=
 bdO (fraction_Value n x') fun v1 => (
 bdO (fraction_Value n y) fun v3 => (
 bdO (integer_Mul n v1.Num v3.Den) fun v5 => (
 bdO (integer_Mul n v3.Num v1.Den) fun v7 => (
 bdO (integer_Compare n v5 v7) fun v9 => (
 some (v9)
 )
 )
 )
 )
 )

def slices_insertionSortCmpFunc_fiducial_api_Rat_w_of_fraction_Compare (n : Nat) (data : List api_Rat) (a : Int) (b : Int) : Option (List api_Rat) :=
 bdO (loopO (α := List api_Rat × Int) (β := List api_Rat) n (fun again72 (d_49, i_50) => (
  cdO (decide (i_50 < b)) (
   bdO (loopO (α := List api_Rat × Int) (β := List api_Rat) n (fun again83 (d_74, j_75) => (
    cdO (decide (j_75 > a)) (
     gdO (inR j_75 d_74.length) (
     gdO (inR (wrapF .i64 (j_75 - 1)) d_74.length) (
     bdO (fraction_Compare n (gt d_74 j_75) (gt d_74 (wrapF .i64 (j_75 - 1)))) fun v87 => (
     cdO (decide (v87 < 0)) (
      again83 ((d_74.set j_75.toNat (gt d_74 (wrapF .i64 (j_75 - 1)))).set (wrapF .i64 (j_75 - 1)).toNat (gt d_74 j_75), wrapF .i64 (j_75 - 1))
     ) (
      some (d_74)
     )
     )
     )
     )
    ) (
     some (d_74)
    )
   )) (d_49, i_50)) fun d_82 => (
    again72 (d_82, wrapF .i64 (i_50 + 1))
   )
  ) (
   some (d_49)
  )
 )) (data, wrapF .i64 (a + 1))) fun d_71 => (
  some (d_71)
 )

def slices_pdqsortCmpFunc_fiducial_api_Rat_w_of_fraction_Compare (n : Nat) (data : List api_Rat) (a : Int) (b : Int) (limit : Int) : Option (List api_Rat) :=
 bdO (loopO (α := Int × Int × Int × Bool × Bool) (β := List api_Rat) n (fun again31 (a_21, b_22, l_23, w_24, w_25) => (
  gdO ((decide ((wrapF .i64 (b_22 - a_21)) ≤ 12))) (
  bdO (slices_insertionSortCmpFunc_fiducial_api_Rat_w_of_fraction_Compare n data a_21 b_22) fun v33 => (
  some (v33)
  )
  )
 )) (a, b, limit, true, true)) fun r0 => (
  some r0
 )

def slices_SortFunc_fiducial_api_Rat_fiducial_api_Rat_w_of_fraction_Compare (n : Nat) (x' : List api_Rat) : Option (List api_Rat) :=
 bdO (math_bits_Len n (wrapF .u64 (x'.length : Int))) fun v6 => (
 bdO (slices_pdqsortCmpFunc_fiducial_api_Rat_w_of_fraction_Compare n x' 0 (x'.length : Int) v6) fun v8 => (
 some (v8)
 )
 )

def fraction_counted (n : Nat) (n' : api_Int) : Option (api_Int) :=
 bdO (integer_Valid n n') fun v1 => (
 cdO v1 (
  some (n')
 ) (
  bdO (integer_Of n 0) fun v4 => (
  some (v4)
  )
 )
 )

def integer_plus (n : Nat) (a : List Int) (b : List Int) : Option (List Int) :=
 gdO (decide (0 ≤ wrapF .i64 ((mx (a.length : Int) (b.length : Int)) + 1))) (
 gdO (decide ((4 : Int) * (wrapF .i64 ((mx (a.length : Int) (b.length : Int)) + 1)) ≤ 281474976710656)) (
 gdO (decide (wrapF .i64 ((mx (a.length : Int) (b.length : Int)) + 1) ≤ 9223372036854775807)) (
 bdO (loopO (α := List Int × Int × Int) (β := List Int) n (fun again16 (o_4, c_5, x_6) => (
  cdO (decide (x_6 < ((List.replicate (wrapF .i64 ((mx (a.length : Int) (b.length : Int)) + 1)).toNat ((0 : Int) : Int)).length : Int))) (
   bdO (integer_at n a x_6) fun v18 => (
   bdO (integer_at n b x_6) fun v20 => (
   cdO (decide ((wrapF .u32 ((wrapF .u32 (v18 + v20)) + c_5)) ≥ 1000000000)) (
    gdO (inR x_6 o_4.length) (
    again16 (o_4.set x_6.toNat (wrapF .u32 ((wrapF .u32 ((wrapF .u32 (v18 + v20)) + c_5)) - 1000000000)), 1, wrapF .i64 (x_6 + 1))
    )
   ) (
    gdO (inR x_6 o_4.length) (
    again16 (o_4.set x_6.toNat (wrapF .u32 ((wrapF .u32 (v18 + v20)) + c_5)), 0, wrapF .i64 (x_6 + 1))
    )
   )
   )
   )
  ) (
   some (o_4)
  )
 )) (List.replicate (wrapF .i64 ((mx (a.length : Int) (b.length : Int)) + 1)).toNat ((0 : Int) : Int), 0, 0)) fun o_15 => (
  bdO (integer_trim n o_15) fun v28 => (
  some (v28)
  )
 )
 )
 )
 )

def integer_minus (n : Nat) (a : List Int) (b : List Int) : Option (List Int) :=
 gdO (decide (0 ≤ (a.length : Int))) (
 gdO (decide ((4 : Int) * (a.length : Int) ≤ 281474976710656)) (
 gdO (decide ((a.length : Int) ≤ 9223372036854775807)) (
 bdO (loopO (α := List Int × Int × Int) (β := List Int) n (fun again15 (o_4, b_5, x_6) => (
  cdO (decide (x_6 < ((List.replicate (a.length : Int).toNat ((0 : Int) : Int)).length : Int))) (
   bdO (integer_at n b x_6) fun v17 => (
   gdO (inR x_6 a.length) (
   cdO (decide ((gt a x_6) < (wrapF .u32 (v17 + b_5)))) (
    gdO (inR x_6 o_4.length) (
    again15 (o_4.set x_6.toNat (wrapF .u32 ((wrapF .u32 ((gt a x_6) + 1000000000)) - (wrapF .u32 (v17 + b_5)))), 1, wrapF .i64 (x_6 + 1))
    )
   ) (
    gdO (inR x_6 o_4.length) (
    again15 (o_4.set x_6.toNat (wrapF .u32 ((gt a x_6) - (wrapF .u32 (v17 + b_5)))), 0, wrapF .i64 (x_6 + 1))
    )
   )
   )
   )
  ) (
   some (o_4)
  )
 )) (List.replicate (a.length : Int).toNat ((0 : Int) : Int), 0, 0)) fun o_14 => (
  bdO (integer_trim n o_14) fun v26 => (
  some (v26)
  )
 )
 )
 )
 )

def integer_Divide (n : Nat) (x' : api_Int) (y : api_Int) : Option (api_Int × api_Int × Int) :=
 bdO (integer_groups n x') fun v1 => (
 bdO (integer_groups n y) fun v3 => (
 cdO (((v3.length : Int) : Int) == 0) (
  some ((api_Int.mk false [], api_Int.mk false [], 14))
 ) (
  bdO (integer_over n v1 v3) fun v6 => (
  bdO (slices_Clone_uint32_uint32 n v6.2) fun v8 => (
  cdO (decide ((v8.length : Int) > 0)) (
   cdO (x'.Negative != y.Negative) (
    bdO (integer_plus n v6.1 [(1 : Int)]) fun v12 => (
    bdO (integer_minus n v3 v8) fun v14 => (
    bdO (integer_made n true v12) fun v16 => (
    bdO (integer_made n y.Negative v14) fun v18 => (
    some ((v16, v18, 0))
    )
    )
    )
    )
   ) (
    bdO (integer_made n false v6.1) fun v20 => (
    bdO (integer_made n y.Negative v8) fun v22 => (
    some ((v20, v22, 0))
    )
    )
   )
  ) (
   bdO (integer_made n (x'.Negative != y.Negative) v6.1) fun v24 => (
   bdO (integer_made n y.Negative v8) fun v26 => (
   some ((v24, v26, 0))
   )
   )
  )
  )
  )
 )
 )
 )

def fraction_reduced (n : Nat) (num : api_Int) (den : api_Int) : Option (api_Rat) :=
 bdO (integer_Sign n den) fun v1 => (
 cdO (decide (v1 < 0)) (
  bdO (integer_Neg n num) fun v4 => (
  bdO (integer_Neg n den) fun v6 => (
  bdO (integer_Gcd n v4 v6) fun v8 => (
  bdO (integer_Divide n v4 v8) fun v10 => (
  bdO (integer_Divide n v6 v8) fun v12 => (
  some (api_Rat.mk v10.1 v12.1)
  )
  )
  )
  )
  )
 ) (
  bdO (integer_Gcd n num den) fun v14 => (
  bdO (integer_Divide n num v14) fun v16 => (
  bdO (integer_Divide n den v14) fun v18 => (
  some (api_Rat.mk v16.1 v18.1)
  )
  )
  )
 )
 )

def fraction_New (n : Nat) (num : api_Int) (den : api_Int) : Option (api_Rat × Int) :=
 bdO (fraction_counted n num) fun v1 => (
 bdO (fraction_counted n den) fun v3 => (
 bdO (integer_Sign n v3) fun v5 => (
 cdO ((v5 : Int) == 0) (
  some ((api_Rat.mk (api_Int.mk false []) (api_Int.mk false []), 14))
 ) (
  bdO (fraction_reduced n v1 v3) fun v8 => (
  some ((v8, 0))
  )
 )
 )
 )
 )

def fraction_Of (n : Nat) (n' : Int) (d : Int) : Option (api_Rat × Int) :=
 bdO (integer_Of n n') fun v1 => (
 bdO (integer_Of n d) fun v3 => (
 bdO (fraction_New n v1 v3) fun v5 => (
 some ((v5.1, v5.2))
 )
 )
 )

def integer_sum (n : Nat) (negative : Bool) (a : List Int) (other : Bool) (b : List Int) : Option (api_Int) :=
 cdO (negative == other) (
  bdO (integer_plus n a b) fun v2 => (
  bdO (integer_made n negative v2) fun v4 => (
  some (v4)
  )
  )
 ) (
  bdO (integer_compare n a b) fun v6 => (
  cdO (decide (v6 ≥ 0)) (
   bdO (integer_minus n a b) fun v9 => (
   bdO (integer_made n negative v9) fun v11 => (
   some (v11)
   )
   )
  ) (
   bdO (integer_minus n b a) fun v13 => (
   bdO (integer_made n other v13) fun v15 => (
   some (v15)
   )
   )
  )
  )
 )

def integer_Add (n : Nat) (x' : api_Int) (y : api_Int) : Option (api_Int) :=
 bdO (integer_groups n x') fun v1 => (
 bdO (integer_groups n y) fun v3 => (
 bdO (integer_sum n x'.Negative v1 y.Negative v3) fun v5 => (
 some (v5)
 )
 )
 )

def fraction_Add (n : Nat) (x' : api_Rat) (y : api_Rat) : Option (api_Rat) :=
 bdO (fraction_Value n x') fun v1 => (
 bdO (fraction_Value n y) fun v3 => (
 bdO (integer_Mul n v1.Num v3.Den) fun v5 => (
 bdO (integer_Mul n v3.Num v1.Den) fun v7 => (
 bdO (integer_Add n v5 v7) fun v9 => (
 bdO (integer_Mul n v1.Den v3.Den) fun v11 => (
 bdO (fraction_reduced n v9 v11) fun v13 => (
 some (v13)
 )
 )
 )
 )
 )
 )
 )

def fraction_Sum (n : Nat) (l : List api_Rat) : Option (api_Rat) :=
 bdO (fraction_Whole n 0) fun v1 => (
 bdO (loopO (α := Bool × List Int × Bool × List Int × Int) (β := Bool × List Int × Bool × List Int) n (fun again16 (s_3, s_4, s_5, s_6, x_7) => (
  cdO (decide (x_7 < (l.length : Int))) (
   gdO (inR x_7 l.length) (
   bdO (fraction_Add n (api_Rat.mk (api_Int.mk s_3 s_4) (api_Int.mk s_5 s_6)) (gt l x_7)) fun v19 => (
   again16 (v19.Num.Negative, v19.Num.Groups, v19.Den.Negative, v19.Den.Groups, wrapF .i64 (x_7 + 1))
   )
   )
  ) (
   some ((s_3, s_4, s_5, s_6))
  )
 )) (v1.Num.Negative, v1.Num.Groups, v1.Den.Negative, v1.Den.Groups, 0)) fun o21 => (
  match o21 with
  | (s_12, s_13, s_14, s_15) => (
   some (api_Rat.mk (api_Int.mk s_12 s_13) (api_Int.mk s_14 s_15))
  ))
 )

def fraction_Mul (n : Nat) (x' : api_Rat) (y : api_Rat) : Option (api_Rat) :=
 bdO (fraction_Value n x') fun v1 => (
 bdO (fraction_Value n y) fun v3 => (
 bdO (integer_Mul n v1.Num v3.Num) fun v5 => (
 bdO (integer_Mul n v1.Den v3.Den) fun v7 => (
 bdO (fraction_reduced n v5 v7) fun v9 => (
 some (v9)
 )
 )
 )
 )
 )

def fraction_Sign (n : Nat) (x' : api_Rat) : Option (Int) :=
 bdO (fraction_Value n x') fun v1 => (
 bdO (integer_Sign n v1.Num) fun v3 => (
 some (v3)
 )
 )

def fraction_Neg (n : Nat) (x' : api_Rat) : Option (api_Rat) :=
 bdO (fraction_Value n x') fun v1 => (
 bdO (integer_Neg n v1.Num) fun v3 => (
 some (api_Rat.mk v3 v1.Den)
 )
 )

def fraction_Sub (n : Nat) (x' : api_Rat) (y : api_Rat) : Option (api_Rat) :=
 bdO (fraction_Neg n y) fun v1 => (
 bdO (fraction_Add n x' v1) fun v3 => (
 some (v3)
 )
 )

def fraction_Divide (n : Nat) (x' : api_Rat) (y : api_Rat) : Option (api_Rat × Int) :=
 bdO (fraction_Value n x') fun v1 => (
 bdO (fraction_Value n y) fun v3 => (
 bdO (integer_Sign n v3.Num) fun v5 => (
 cdO ((v5 : Int) == 0) (
  some ((api_Rat.mk (api_Int.mk false []) (api_Int.mk false []), 14))
 ) (
  bdO (integer_Mul n v1.Num v3.Den) fun v8 => (
  bdO (integer_Mul n v1.Den v3.Num) fun v10 => (
  bdO (fraction_reduced n v8 v10) fun v12 => (
  some ((v12, 0))
  )
  )
  )
 )
 )
 )
 )

def volume_peak (n : Nat) (a : api_Rat) (b : api_Rat) (c : api_Rat) : Option (api_Rat) :=
 bdO (fraction_Whole n 3) fun v1 => (
 bdO (fraction_Sub n a b) fun v3 => (
 bdO (fraction_Sub n a c) fun v5 => (
 bdO (fraction_Mul n v3 v5) fun v7 => (
 bdO (fraction_Mul n v1 v7) fun v9 => (
 bdO (fraction_Mul n a a) fun v11 => (
 bdO (fraction_Mul n a v11) fun v13 => (
 bdO (fraction_Divide n v13 v9) fun v15 => (
 some (v15.1)
 )
 )
 )
 )
 )
 )
 )
 )

def volume_Triangle (n : Nat) (a : api_Rat) (b : api_Rat) (c : api_Rat) : Option (api_Rat × api_Rat) :=
 bdO (fraction_Value n a) fun v1 => (
 bdO (fraction_Value n b) fun v3 => (
 bdO (fraction_Value n c) fun v5 => (
 bdO (slices_SortFunc_fiducial_api_Rat_fiducial_api_Rat_w_of_fraction_Compare n [v1, v3, v5]) fun v7 => (
 gdO (decide (v7.length = 3)) (
 bdO (fraction_Of n 1 3) fun v10 => (
 bdO (fraction_Sum n v7) fun v12 => (
 bdO (fraction_Mul n v10.1 v12) fun v14 => (
 bdO (fraction_Whole n 0) fun v16 => (
 gdO (inR 0 3) (
 bdO (fraction_Sign n (gt v7 0)) fun v37 => (
 cdO (decide (v37 ≥ 0)) (
  some ((v14, v16))
 ) (
  gdO (inR 2 3) (
  bdO (fraction_Sign n (gt v7 2)) fun v56 => (
  cdO (decide (v56 ≤ 0)) (
   bdO (fraction_Neg n v14) fun v70 => (
   some ((v16, v70))
   )
  ) (
   gdO (inR 1 3) (
   bdO (fraction_Sign n (gt v7 1)) fun v73 => (
   cdO (decide (v73 ≤ 0)) (
    bdO (volume_peak n (gt v7 2) (gt v7 0) (gt v7 1)) fun v81 => (
    bdO (fraction_Sub n v81 v14) fun v83 => (
    some ((v81, v83))
    )
    )
   ) (
    bdO (fraction_Neg n (gt v7 0)) fun v85 => (
    bdO (fraction_Neg n (gt v7 1)) fun v87 => (
    bdO (fraction_Neg n (gt v7 2)) fun v89 => (
    bdO (volume_peak n v85 v87 v89) fun v91 => (
    bdO (fraction_Add n v91 v14) fun v93 => (
    some ((v93, v91))
    )
    )
    )
    )
    )
   )
   )
   )
  )
  )
  )
 )
 )
 )
 )
 )
 )
 )
 )
 )
 )
 )
 )

def terrain_Check_1 (n : Nat) (n' : Int) : Option (Bool) :=
 cdO (decide (n' ≥ 2)) (
  some (decide (n' ≤ 64))
 ) (
  some (false)
 )

def terrain_far (n : Nat) (n' : Int) : Option (Bool) :=
 cdO (decide (n' < (-1048576))) (
  some (true)
 ) (
  some (decide (n' > 1048576))
 )

def terrain_Check_2 (n : Nat) (z : Int) : Option (Bool) :=
 cdO ((z : Int) != (-2147483648)) (
  bdO (terrain_far n z) fun v2 => (
  some (v2)
  )
 ) (
  some (false)
 )

def slices_IndexFunc_int_int_of_terrain_Check_2 (n : Nat) (s : List Int) : Option (Int) :=
 bdO (loopO (α := Int) (β := Sum (Unit) (Int)) n (fun again7 x_1 => (
  cdO (decide (x_1 < (s.length : Int))) (
   gdO (inR x_1 s.length) (
   bdO (terrain_Check_2 n (gt s x_1)) fun v10 => (
   cdO v10 (
    some (Sum.inr (x_1))
   ) (
    again7 (wrapF .i64 (x_1 + 1))
   )
   )
   )
  ) (
   some (Sum.inl ())
  )
 )) 0) fun o13 => (
  match o13 with
  | .inl _ => (
   some ((-1))
  )
  | .inr (r0) => (
   some r0
  ))

def slices_ContainsFunc_int_int_of_terrain_Check_2 (n : Nat) (s : List Int) : Option (Bool) :=
 bdO (slices_IndexFunc_int_int_of_terrain_Check_2 n s) fun v1 => (
 some (decide (v1 ≥ 0))
 )

def terrain_Check (n : Nat) (g : api_Grid) : Option (Int) :=
 bdO (terrain_Check_1 n g.Width) fun v1 => (
 cdO (!v1) (
  some (2)
 ) (
  bdO (terrain_Check_1 n g.Height) fun v4 => (
  cdO (!v4) (
   some (2)
  ) (
   cdO (decide (g.Step < 2)) (
    some (2)
   ) (
    cdO (decide (g.Step > 65536)) (
     some (2)
    ) (
     cdO (((g.Step.tmod 2) : Int) != 0) (
      some (2)
     ) (
      bdO (terrain_far n g.X0) fun v10 => (
      cdO v10 (
       some (2)
      ) (
       bdO (terrain_far n g.Y0) fun v13 => (
       cdO v13 (
        some (2)
       ) (
        cdO (((g.Z.length : Int) : Int) != (wrapF .i64 (g.Width * g.Height))) (
         some (4)
        ) (
         bdO (slices_ContainsFunc_int_int_of_terrain_Check_2 n g.Z) fun v17 => (
         cdO v17 (
          some (2)
         ) (
          some (0)
         )
         )
        )
       )
       )
      )
      )
     )
    )
   )
  )
  )
 )
 )

def volume_far (n : Nat) (z : Int) : Option (Bool) :=
 cdO (decide (z < (-1048576))) (
  some (true)
 ) (
  some (decide (z > 1048576))
 )

def volume_triangles (n : Nat) (g : api_Grid) : Option (List (A3 Int)) :=
 bdO (loopO (α := List (A3 Int) × Int) (β := List (A3 Int)) n (fun again75 (o_1, x_2) => (
  cdO (decide (x_2 < (wrapF .i64 (g.Height - 1)))) (
   bdO (loopO (α := List (A3 Int) × Int) (β := List (A3 Int)) n (fun again112 (o_78, x_79) => (
    cdO (decide (x_79 < (wrapF .i64 (g.Width - 1)))) (
     bdO (loopO (α := List (A3 Int) × Int) (β := List (A3 Int)) n (fun again129 (o_115, x_116) => (
      cdO (decide (x_116 < 2)) (
       gdO (inR x_116 ([A3.mk (wrapF .i64 ((wrapF .i64 (x_2 * g.Width)) + x_79)) (wrapF .i64 ((wrapF .i64 ((wrapF .i64 (x_2 * g.Width)) + x_79)) + 1)) (wrapF .i64 ((wrapF .i64 ((wrapF .i64 ((wrapF .i64 (x_2 * g.Width)) + x_79)) + g.Width)) + 1)), A3.mk (wrapF .i64 ((wrapF .i64 (x_2 * g.Width)) + x_79)) (wrapF .i64 ((wrapF .i64 ((wrapF .i64 ((wrapF .i64 (x_2 * g.Width)) + x_79)) + g.Width)) + 1)) (wrapF .i64 ((wrapF .i64 ((wrapF .i64 (x_2 * g.Width)) + x_79)) + g.Width))].length)) (
       gdO (inR (gt [A3.mk (wrapF .i64 ((wrapF .i64 (x_2 * g.Width)) + x_79)) (wrapF .i64 ((wrapF .i64 ((wrapF .i64 (x_2 * g.Width)) + x_79)) + 1)) (wrapF .i64 ((wrapF .i64 ((wrapF .i64 ((wrapF .i64 (x_2 * g.Width)) + x_79)) + g.Width)) + 1)), A3.mk (wrapF .i64 ((wrapF .i64 (x_2 * g.Width)) + x_79)) (wrapF .i64 ((wrapF .i64 ((wrapF .i64 ((wrapF .i64 (x_2 * g.Width)) + x_79)) + g.Width)) + 1)) (wrapF .i64 ((wrapF .i64 ((wrapF .i64 (x_2 * g.Width)) + x_79)) + g.Width))] x_116).e0 g.Z.length) (
       cdO (((gt g.Z (gt [A3.mk (wrapF .i64 ((wrapF .i64 (x_2 * g.Width)) + x_79)) (wrapF .i64 ((wrapF .i64 ((wrapF .i64 (x_2 * g.Width)) + x_79)) + 1)) (wrapF .i64 ((wrapF .i64 ((wrapF .i64 ((wrapF .i64 (x_2 * g.Width)) + x_79)) + g.Width)) + 1)), A3.mk (wrapF .i64 ((wrapF .i64 (x_2 * g.Width)) + x_79)) (wrapF .i64 ((wrapF .i64 ((wrapF .i64 ((wrapF .i64 (x_2 * g.Width)) + x_79)) + g.Width)) + 1)) (wrapF .i64 ((wrapF .i64 ((wrapF .i64 (x_2 * g.Width)) + x_79)) + g.Width))] x_116).e0) : Int) != (-2147483648)) (
        gdO (inR (gt [A3.mk (wrapF .i64 ((wrapF .i64 (x_2 * g.Width)) + x_79)) (wrapF .i64 ((wrapF .i64 ((wrapF .i64 (x_2 * g.Width)) + x_79)) + 1)) (wrapF .i64 ((wrapF .i64 ((wrapF .i64 ((wrapF .i64 (x_2 * g.Width)) + x_79)) + g.Width)) + 1)), A3.mk (wrapF .i64 ((wrapF .i64 (x_2 * g.Width)) + x_79)) (wrapF .i64 ((wrapF .i64 ((wrapF .i64 ((wrapF .i64 (x_2 * g.Width)) + x_79)) + g.Width)) + 1)) (wrapF .i64 ((wrapF .i64 ((wrapF .i64 (x_2 * g.Width)) + x_79)) + g.Width))] x_116).e1 g.Z.length) (
        cdO (((gt g.Z (gt [A3.mk (wrapF .i64 ((wrapF .i64 (x_2 * g.Width)) + x_79)) (wrapF .i64 ((wrapF .i64 ((wrapF .i64 (x_2 * g.Width)) + x_79)) + 1)) (wrapF .i64 ((wrapF .i64 ((wrapF .i64 ((wrapF .i64 (x_2 * g.Width)) + x_79)) + g.Width)) + 1)), A3.mk (wrapF .i64 ((wrapF .i64 (x_2 * g.Width)) + x_79)) (wrapF .i64 ((wrapF .i64 ((wrapF .i64 ((wrapF .i64 (x_2 * g.Width)) + x_79)) + g.Width)) + 1)) (wrapF .i64 ((wrapF .i64 ((wrapF .i64 (x_2 * g.Width)) + x_79)) + g.Width))] x_116).e1) : Int) != (-2147483648)) (
         gdO (inR (gt [A3.mk (wrapF .i64 ((wrapF .i64 (x_2 * g.Width)) + x_79)) (wrapF .i64 ((wrapF .i64 ((wrapF .i64 (x_2 * g.Width)) + x_79)) + 1)) (wrapF .i64 ((wrapF .i64 ((wrapF .i64 ((wrapF .i64 (x_2 * g.Width)) + x_79)) + g.Width)) + 1)), A3.mk (wrapF .i64 ((wrapF .i64 (x_2 * g.Width)) + x_79)) (wrapF .i64 ((wrapF .i64 ((wrapF .i64 ((wrapF .i64 (x_2 * g.Width)) + x_79)) + g.Width)) + 1)) (wrapF .i64 ((wrapF .i64 ((wrapF .i64 (x_2 * g.Width)) + x_79)) + g.Width))] x_116).e2 g.Z.length) (
         cdO (((gt g.Z (gt [A3.mk (wrapF .i64 ((wrapF .i64 (x_2 * g.Width)) + x_79)) (wrapF .i64 ((wrapF .i64 ((wrapF .i64 (x_2 * g.Width)) + x_79)) + 1)) (wrapF .i64 ((wrapF .i64 ((wrapF .i64 ((wrapF .i64 (x_2 * g.Width)) + x_79)) + g.Width)) + 1)), A3.mk (wrapF .i64 ((wrapF .i64 (x_2 * g.Width)) + x_79)) (wrapF .i64 ((wrapF .i64 ((wrapF .i64 ((wrapF .i64 (x_2 * g.Width)) + x_79)) + g.Width)) + 1)) (wrapF .i64 ((wrapF .i64 ((wrapF .i64 (x_2 * g.Width)) + x_79)) + g.Width))] x_116).e2) : Int) != (-2147483648)) (
          gdO (decide ((o_115.length + 1) * 24 ≤ 140737488355328)) (
          gdO (decide (o_115.length + 1 ≤ 4611686018427387904)) (
          again129 (o_115 ++ [(gt [A3.mk (wrapF .i64 ((wrapF .i64 (x_2 * g.Width)) + x_79)) (wrapF .i64 ((wrapF .i64 ((wrapF .i64 (x_2 * g.Width)) + x_79)) + 1)) (wrapF .i64 ((wrapF .i64 ((wrapF .i64 ((wrapF .i64 (x_2 * g.Width)) + x_79)) + g.Width)) + 1)), A3.mk (wrapF .i64 ((wrapF .i64 (x_2 * g.Width)) + x_79)) (wrapF .i64 ((wrapF .i64 ((wrapF .i64 ((wrapF .i64 (x_2 * g.Width)) + x_79)) + g.Width)) + 1)) (wrapF .i64 ((wrapF .i64 ((wrapF .i64 (x_2 * g.Width)) + x_79)) + g.Width))] x_116)], wrapF .i64 (x_116 + 1))
          )
          )
         ) (
          again129 (o_115, wrapF .i64 (x_116 + 1))
         )
         )
        ) (
         again129 (o_115, wrapF .i64 (x_116 + 1))
        )
        )
       ) (
        again129 (o_115, wrapF .i64 (x_116 + 1))
       )
       )
       )
      ) (
       some (o_115)
      )
     )) (o_78, 0)) fun o_128 => (
      again112 (o_128, wrapF .i64 (x_79 + 1))
     )
    ) (
     some (o_78)
    )
   )) (o_1, 0)) fun o_111 => (
    again75 (o_111, wrapF .i64 (x_2 + 1))
   )
  ) (
   some (o_1)
  )
 )) ([], 0)) fun o_74 => (
  some (o_74)
 )

def volume_Level_1 (n : Nat) (k : Int) (p : Int) (p' : Int) (p'' : Int) (p''' : Int) (p'''' : Int) (p''''' : List Int) (p'''''' : Int) : Option (Int) :=
 gdO (inR k p'''''.length) (
 some (wrapF .i64 ((gt p''''' k) - p''''''))
 )

def volume_total_of_volume_Level_1 (n : Nat) (g : api_Grid) (l : List (A3 Int)) (c : Int) (c' : Int) (c'' : Int) (c''' : Int) (c'''' : Int) (c''''' : List Int) (c'''''' : Int) : Option (api_Rat × api_Rat) :=
 bdO (fraction_Whole n 0) fun v1 => (
 bdO (fraction_Whole n 0) fun v3 => (
 bdO (loopO (α := Bool × List Int × Bool × List Int × Bool × List Int × Bool × List Int × Int) (β := Bool × List Int × Bool × List Int × Bool × List Int × Bool × List Int) n (fun again106 (a_68, a_69, a_70, a_71, b_72, b_73, b_74, b_75, x_76) => (
  cdO (decide (x_76 < (l.length : Int))) (
   gdO (inR x_76 l.length) (
   bdO (volume_Level_1 n (gt l x_76).e0 c c' c'' c''' c'''' c''''' c'''''') fun v110 => (
   bdO (fraction_Whole n v110) fun v112 => (
   bdO (volume_Level_1 n (gt l x_76).e1 c c' c'' c''' c'''' c''''' c'''''') fun v114 => (
   bdO (fraction_Whole n v114) fun v116 => (
   bdO (volume_Level_1 n (gt l x_76).e2 c c' c'' c''' c'''' c''''' c'''''') fun v118 => (
   bdO (fraction_Whole n v118) fun v120 => (
   bdO (volume_Triangle n v112 v116 v120) fun v122 => (
   bdO (fraction_Add n (api_Rat.mk (api_Int.mk a_68 a_69) (api_Int.mk a_70 a_71)) v122.1) fun v124 => (
   bdO (fraction_Add n (api_Rat.mk (api_Int.mk b_72 b_73) (api_Int.mk b_74 b_75)) v122.2) fun v126 => (
   again106 (v124.Num.Negative, v124.Num.Groups, v124.Den.Negative, v124.Den.Groups, v126.Num.Negative, v126.Num.Groups, v126.Den.Negative, v126.Den.Groups, wrapF .i64 (x_76 + 1))
   )
   )
   )
   )
   )
   )
   )
   )
   )
   )
  ) (
   some ((a_68, a_69, a_70, a_71, b_72, b_73, b_74, b_75))
  )
 )) (v1.Num.Negative, v1.Num.Groups, v1.Den.Negative, v1.Den.Groups, v3.Num.Negative, v3.Num.Groups, v3.Den.Negative, v3.Den.Groups, 0)) fun o128 => (
  match o128 with
  | (a_98, a_99, a_100, a_101, b_102, b_103, b_104, b_105) => (
   bdO (fraction_Whole n (wrapF .i64 ((wrapF .i64 (g.Step * g.Step)).tdiv 2))) fun v131 => (
   bdO (fraction_Mul n v131 (api_Rat.mk (api_Int.mk a_98 a_99) (api_Int.mk a_100 a_101))) fun v133 => (
   bdO (fraction_Mul n v131 (api_Rat.mk (api_Int.mk b_102 b_103) (api_Int.mk b_104 b_105))) fun v135 => (
   some ((v133, v135))
   )
   )
   )
  ))
 )
 )

def volume_Level (n : Nat) (g : api_Grid) (z : Int) : Option (api_Rat × api_Rat × Int) :=
 bdO (terrain_Check n g) fun v1 => (
 cdO ((v1 : Int) != 0) (
  some ((api_Rat.mk (api_Int.mk false []) (api_Int.mk false []), api_Rat.mk (api_Int.mk false []) (api_Int.mk false []), v1))
 ) (
  bdO (volume_far n z) fun v5 => (
  cdO v5 (
   some ((api_Rat.mk (api_Int.mk false []) (api_Int.mk false []), api_Rat.mk (api_Int.mk false []) (api_Int.mk false []), 2))
  ) (
   bdO (volume_triangles n g) fun v9 => (
   bdO (volume_total_of_volume_Level_1 n g v9 g.X0 g.Y0 g.Step g.Width g.Height g.Z z) fun v11 => (
   some ((v11.1, v11.2, 0))
   )
   )
  )
  )
 )
 )

def volume_Area (n : Nat) (g : api_Grid) : Option (Int × Int) :=
 bdO (terrain_Check n g) fun v1 => (
 cdO ((v1 : Int) != 0) (
  some ((0, v1))
 ) (
  bdO (volume_triangles n g) fun v4 => (
  some ((wrapF .i64 ((wrapF .i64 ((v4.length : Int) * g.Step)) * g.Step), 0))
  )
 )
 )

def fiducialref01_Valid (n : Nat) (x' : api_Int) : Option (Bool) :=
 bdO (loopO (α := Int) (β := Sum (Unit) (Bool)) n (fun again5 i_1 => (
  cdO (decide (i_1 < (x'.Groups.length : Int))) (
   gdO (inR i_1 x'.Groups.length) (
   cdO (decide ((gt x'.Groups i_1) ≥ 1000000000)) (
    some (Sum.inr (false))
   ) (
    again5 (wrapF .i64 (i_1 + 1))
   )
   )
  ) (
   some (Sum.inl ())
  )
 )) 0) fun o9 => (
  match o9 with
  | .inl _ => (
   cdO (((x'.Groups.length : Int) : Int) == 0) (
    some (!x'.Negative)
   ) (
    gdO (inR (wrapF .i64 ((x'.Groups.length : Int) - 1)) x'.Groups.length) (
    some (((gt x'.Groups (wrapF .i64 ((x'.Groups.length : Int) - 1))) : Int) != 0)
    )
   )
  )
  | .inr (r0) => (
   some r0
  ))

def fiducialref01_Value (n : Nat) (x' : api_Int) : Option (api_Int) :=
 bdO (fiducialref01_Valid n x') fun v1 => (
 cdO (!v1) (
  some (api_Int.mk false [])
 ) (
  gdO (decide ((0 + x'.Groups.length) * 4 ≤ 140737488355328)) (
  gdO (decide (0 + x'.Groups.length ≤ 4611686018427387904)) (
  some (x')
  )
  )
 )
 )

def fiducialref01_Sign (n : Nat) (x' : api_Int) : Option (Int) :=
 bdO (fiducialref01_Value n x') fun v1 => (
 cdO (((v1.Groups.length : Int) : Int) == 0) (
  some (0)
 ) (
  cdO v1.Negative (
   some ((-1))
  ) (
   some (1)
  )
 )
 )

def fiducialref01_short (n : Nat) (a : List Int) (d : Int) : Option (List Int × Int) :=
 gdO (decide (0 ≤ (a.length : Int))) (
 gdO (decide ((4 : Int) * (a.length : Int) ≤ 281474976710656)) (
 gdO (decide ((a.length : Int) ≤ 9223372036854775807)) (
 bdO (loopO (α := List Int × Int × Int) (β := List Int × Int) n (fun again13 (q_4, r_5, i_6) => (
  cdO (decide (i_6 ≥ 0)) (
   gdO (inR i_6 a.length) (
   gdO (!decide (d = 0)) (
   gdO (inR i_6 q_4.length) (
   again13 (q_4.set i_6.toNat (wrapF .u32 (wrapF .u64 ((wrapF .u64 ((wrapF .u64 (r_5 * 1000000000)) + (wrapF .u64 (gt a i_6)))).tdiv d))), (wrapF .u64 ((wrapF .u64 (r_5 * 1000000000)) + (wrapF .u64 (gt a i_6)))).tmod d, wrapF .i64 (i_6 - 1))
   )
   )
   )
  ) (
   some ((q_4, r_5))
  )
 )) (List.replicate (a.length : Int).toNat ((0 : Int) : Int), 0, wrapF .i64 ((a.length : Int) - 1))) fun o18 => (
  match o18 with
  | (q_11, r_12) => (
   bdO (fiducialref01_made n false q_11) fun v21 => (
   some ((v21.Groups, r_12))
   )
  ))
 )
 )
 )

def fiducialref01_size (n : Nat) (a : List Int) (b : List Int) : Option (Int) :=
 cdO (((a.length : Int) : Int) != (b.length : Int)) (
  cdO (decide ((a.length : Int) < (b.length : Int))) (
   some ((-1))
  ) (
   some (1)
  )
 ) (
  bdO (loopO (α := Int) (β := Sum (Unit) (Int)) n (fun again9 i_3 => (
   cdO (decide (i_3 ≥ 0)) (
    gdO (inR i_3 a.length) (
    gdO (inR i_3 b.length) (
    cdO (decide ((gt a i_3) < (gt b i_3))) (
     some (Sum.inr ((-1)))
    ) (
     cdO (decide ((gt a i_3) > (gt b i_3))) (
      some (Sum.inr (1))
     ) (
      again9 (wrapF .i64 (i_3 - 1))
     )
    )
    )
    )
   ) (
    some (Sum.inl ())
   )
  )) (wrapF .i64 ((a.length : Int) - 1))) fun o15 => (
   match o15 with
   | .inl _ => (
    some (0)
   )
   | .inr (r0) => (
    some r0
   ))
 )

def fiducialref01_scaled (n : Nat) (a : List Int) (d : Int) : Option (List Int) :=
 bdO (loopO (α := List Int × Int × Int) (β := List Int × Int) n (fun again10 (o_1, c_2, i_3) => (
  cdO (decide (i_3 < (a.length : Int))) (
   gdO (inR i_3 a.length) (
   gdO (decide ((o_1.length + 1) * 4 ≤ 140737488355328)) (
   gdO (decide (o_1.length + 1 ≤ 4611686018427387904)) (
   again10 (o_1 ++ [wrapF .u32 ((wrapF .u64 ((wrapF .u64 ((wrapF .u64 (gt a i_3)) * d)) + c_2)).tmod 1000000000)], wrapF .u64 ((wrapF .u64 ((wrapF .u64 ((wrapF .u64 (gt a i_3)) * d)) + c_2)).tdiv 1000000000), wrapF .i64 (i_3 + 1))
   )
   )
   )
  ) (
   some ((o_1, c_2))
  )
 )) ([], 0, 0)) fun o15 => (
  match o15 with
  | (o_8, c_9) => (
   gdO (decide ((o_8.length + 1) * 4 ≤ 140737488355328)) (
   gdO (decide (o_8.length + 1 ≤ 4611686018427387904)) (
   bdO (fiducialref01_made n false (o_8 ++ [wrapF .u32 c_9])) fun v20 => (
   some (v20.Groups)
   )
   )
   )
  ))

def fiducialref01_shifted (n : Nat) (a : List Int) (d : Int) : Option (List Int) :=
 gdO (decide ((1 + a.length) * 4 ≤ 140737488355328)) (
 gdO (decide (1 + a.length ≤ 4611686018427387904)) (
 bdO (fiducialref01_made n false ([d] ++ a)) fun v3 => (
 some (v3.Groups)
 )
 )
 )

def fiducialref01_group (n : Nat) (l : List Int) (i : Int) : Option (Int) :=
 cdO (decide (i < (l.length : Int))) (
  gdO (inR i l.length) (
  some (wrapF .u64 (gt l i))
  )
 ) (
  some (0)
 )

def fiducialref01_minus (n : Nat) (a : List Int) (b : List Int) : Option (List Int) :=
 bdO (loopO (α := List Int × Int × Int) (β := List Int) n (fun again12 (o_1, b_2, i_3) => (
  cdO (decide (i_3 < (a.length : Int))) (
   bdO (fiducialref01_group n a i_3) fun v14 => (
   bdO (fiducialref01_group n b i_3) fun v16 => (
   gdO (decide ((o_1.length + 1) * 4 ≤ 140737488355328)) (
   gdO (decide (o_1.length + 1 ≤ 4611686018427387904)) (
   again12 (o_1 ++ [wrapF .u32 ((wrapF .u64 ((wrapF .u64 ((wrapF .u64 (1000000000 + v14)) - v16)) - b_2)).tmod 1000000000)], wrapF .u64 (1 - (wrapF .u64 ((wrapF .u64 ((wrapF .u64 ((wrapF .u64 (1000000000 + v14)) - v16)) - b_2)).tdiv 1000000000))), wrapF .i64 (i_3 + 1))
   )
   )
   )
   )
  ) (
   some (o_1)
  )
 )) ([], 0, 0)) fun o_11 => (
  bdO (fiducialref01_made n false o_11) fun v23 => (
  some (v23.Groups)
  )
 )

def fiducialref01_parts (n : Nat) (a : List Int) (b : List Int) : Option (List Int × List Int) :=
 cdO (((b.length : Int) : Int) == 1) (
  gdO (inR 0 b.length) (
  bdO (fiducialref01_short n a (wrapF .u64 (gt b 0))) fun v3 => (
  bdO (fiducialref01_made n false [(wrapF .u32 v3.2)]) fun v5 => (
  some ((v3.1, v5.Groups))
  )
  )
  )
 ) (
  bdO (fiducialref01_size n a b) fun v7 => (
  cdO (decide (v7 < 0)) (
   some (([], a))
  ) (
   gdO (inR (wrapF .i64 ((b.length : Int) - 1)) b.length) (
   gdO (!decide (wrapF .u64 ((wrapF .u64 (gt b (wrapF .i64 ((b.length : Int) - 1)))) + 1) = 0)) (
   bdO (fiducialref01_scaled n a (wrapF .u64 ((1000000000 : Int).tdiv (wrapF .u64 ((wrapF .u64 (gt b (wrapF .i64 ((b.length : Int) - 1)))) + 1))))) fun v12 => (
   bdO (fiducialref01_scaled n b (wrapF .u64 ((1000000000 : Int).tdiv (wrapF .u64 ((wrapF .u64 (gt b (wrapF .i64 ((b.length : Int) - 1)))) + 1))))) fun v14 => (
   gdO (inS (wrapF .i64 ((wrapF .i64 ((v12.length : Int) - (b.length : Int))) + 1)) (v12.length : Int) v12.length) (
   bdO (fiducialref01_made n false ((v12.drop (wrapF .i64 ((wrapF .i64 ((v12.length : Int) - (b.length : Int))) + 1)).toNat).take ((v12.length : Int).toNat - (wrapF .i64 ((wrapF .i64 ((v12.length : Int) - (b.length : Int))) + 1)).toNat))) fun v17 => (
   gdO (decide (0 ≤ wrapF .i64 ((wrapF .i64 ((v12.length : Int) - (b.length : Int))) + 1))) (
   gdO (decide ((4 : Int) * (wrapF .i64 ((wrapF .i64 ((v12.length : Int) - (b.length : Int))) + 1)) ≤ 281474976710656)) (
   gdO (decide (wrapF .i64 ((wrapF .i64 ((v12.length : Int) - (b.length : Int))) + 1) ≤ 9223372036854775807)) (
   bdO (loopO (α := List Int × List Int × Int) (β := List Int × List Int) n (fun again60 (r_22, q_23, i_24) => (
    cdO (decide (i_24 ≥ 0)) (
     gdO (inR i_24 v12.length) (
     bdO (fiducialref01_shifted n r_22 (gt v12 i_24)) fun v63 => (
     bdO (fiducialref01_group n v63 (b.length : Int)) fun v65 => (
     bdO (fiducialref01_group n v63 (wrapF .i64 ((b.length : Int) - 1))) fun v67 => (
     gdO (inR (wrapF .i64 ((b.length : Int) - 1)) v14.length) (
     gdO (!decide (wrapF .u64 ((wrapF .u64 (gt v14 (wrapF .i64 ((b.length : Int) - 1)))) + 1) = 0)) (
     bdO (fiducialref01_scaled n v14 (wrapF .u64 ((wrapF .u64 ((wrapF .u64 (v65 * 1000000000)) + v67)).tdiv (wrapF .u64 ((wrapF .u64 (gt v14 (wrapF .i64 ((b.length : Int) - 1)))) + 1))))) fun v71 => (
     bdO (fiducialref01_minus n v63 v71) fun v73 => (
     bdO (loopO (α := List Int × Int) (β := List Int × Int) n (fun again84 (r_75, g_76) => (
      bdO (fiducialref01_size n r_75 v14) fun v85 => (
      cdO (decide (v85 ≥ 0)) (
       bdO (fiducialref01_minus n r_75 v14) fun v88 => (
       again84 (v88, wrapF .u64 (g_76 + 1))
       )
      ) (
       some ((r_75, g_76))
      )
      )
     )) (v73, wrapF .u64 ((wrapF .u64 ((wrapF .u64 (v65 * 1000000000)) + v67)).tdiv (wrapF .u64 ((wrapF .u64 (gt v14 (wrapF .i64 ((b.length : Int) - 1)))) + 1))))) fun o90 => (
      match o90 with
      | (r_82, g_83) => (
       gdO (inR i_24 q_23.length) (
       again60 (r_82, q_23.set i_24.toNat (wrapF .u32 g_83), wrapF .i64 (i_24 - 1))
       )
      ))
     )
     )
     )
     )
     )
     )
     )
     )
    ) (
     some ((r_22, q_23))
    )
   )) (v17.Groups, List.replicate (wrapF .i64 ((wrapF .i64 ((v12.length : Int) - (b.length : Int))) + 1)).toNat ((0 : Int) : Int), wrapF .i64 ((v12.length : Int) - (b.length : Int)))) fun o94 => (
    match o94 with
    | (r_58, q_59) => (
     bdO (fiducialref01_short n r_58 (wrapF .u64 ((1000000000 : Int).tdiv (wrapF .u64 ((wrapF .u64 (gt b (wrapF .i64 ((b.length : Int) - 1)))) + 1))))) fun v97 => (
     bdO (fiducialref01_made n false q_59) fun v99 => (
     some ((v99.Groups, v97.1))
     )
     )
    ))
   )
   )
   )
   )
   )
   )
   )
   )
   )
  )
  )
 )

def fiducialref01_pair (n : Nat) (a : List Int) : Option (Int) :=
 bdO (fiducialref01_group n a 1) fun v1 => (
 bdO (fiducialref01_group n a 0) fun v3 => (
 some (wrapF .u64 ((wrapF .u64 (v1 * 1000000000)) + v3))
 )
 )

def fiducialref01_Gcd (n : Nat) (x' : api_Int) (y : api_Int) : Option (api_Int) :=
 bdO (fiducialref01_Value n x') fun v1 => (
 bdO (fiducialref01_Value n y) fun v3 => (
 bdO (loopO (α := List Int × List Int) (β := List Int × List Int) n (fun again16 (a_5, b_6) => (
  cdO (decide ((b_6.length : Int) > 0)) (
   cdO (decide ((a_5.length : Int) > 2)) (
    bdO (fiducialref01_parts n a_5 b_6) fun v19 => (
    again16 (b_6, v19.2)
    )
   ) (
    cdO (decide ((b_6.length : Int) > 2)) (
     bdO (fiducialref01_parts n a_5 b_6) fun v22 => (
     again16 (b_6, v22.2)
     )
    ) (
     some ((a_5, b_6))
    )
   )
  ) (
   some ((a_5, b_6))
  )
 )) (v1.Groups, v3.Groups)) fun o24 => (
  match o24 with
  | (a_14, b_15) => (
   cdO (((b_15.length : Int) : Int) == 0) (
    bdO (fiducialref01_made n false a_14) fun v28 => (
    some (v28)
    )
   ) (
    bdO (fiducialref01_pair n a_14) fun v30 => (
    bdO (fiducialref01_pair n b_15) fun v32 => (
    bdO (loopO (α := Int × Int) (β := Int) n (fun again39 (u_34, v_35) => (
     cdO (decide (v_35 > 0)) (
      gdO (!decide (v_35 = 0)) (
      again39 (v_35, u_34.tmod v_35)
      )
     ) (
      some (u_34)
     )
    )) (v30, v32)) fun u_38 => (
     bdO (fiducialref01_made n false [(wrapF .u32 (u_38.tmod 1000000000)), (wrapF .u32 (wrapF .u64 (u_38.tdiv 1000000000)))]) fun v45 => (
     some (v45)
     )
    )
    )
    )
   )
  ))
 )
 )

def fiducialref01_Neg (n : Nat) (x' : api_Int) : Option (api_Int) :=
 bdO (fiducialref01_Value n x') fun v1 => (
 bdO (fiducialref01_made n (!v1.Negative) v1.Groups) fun v3 => (
 some (v3)
 )
 )

def fiducialref01_plus (n : Nat) (a : List Int) (b : List Int) : Option (List Int) :=
 bdO (loopO (α := List Int × Int × Int) (β := List Int × Int) n (fun again20 (o_1, c_2, i_3) => (
  cdO (decide (i_3 < (a.length : Int))) (
   bdO (fiducialref01_group n a i_3) fun v22 => (
   bdO (fiducialref01_group n b i_3) fun v24 => (
   gdO (decide ((o_1.length + 1) * 4 ≤ 140737488355328)) (
   gdO (decide (o_1.length + 1 ≤ 4611686018427387904)) (
   again20 (o_1 ++ [wrapF .u32 ((wrapF .u64 ((wrapF .u64 (v22 + v24)) + c_2)).tmod 1000000000)], wrapF .u64 ((wrapF .u64 ((wrapF .u64 (v22 + v24)) + c_2)).tdiv 1000000000), wrapF .i64 (i_3 + 1))
   )
   )
   )
   )
  ) (
   cdO (decide (i_3 < (b.length : Int))) (
    bdO (fiducialref01_group n a i_3) fun v29 => (
    bdO (fiducialref01_group n b i_3) fun v31 => (
    gdO (decide ((o_1.length + 1) * 4 ≤ 140737488355328)) (
    gdO (decide (o_1.length + 1 ≤ 4611686018427387904)) (
    again20 (o_1 ++ [wrapF .u32 ((wrapF .u64 ((wrapF .u64 (v29 + v31)) + c_2)).tmod 1000000000)], wrapF .u64 ((wrapF .u64 ((wrapF .u64 (v29 + v31)) + c_2)).tdiv 1000000000), wrapF .i64 (i_3 + 1))
    )
    )
    )
    )
   ) (
    some ((o_1, c_2))
   )
  )
 )) ([], 0, 0)) fun o35 => (
  match o35 with
  | (o_18, c_19) => (
   gdO (decide ((o_18.length + 1) * 4 ≤ 140737488355328)) (
   gdO (decide (o_18.length + 1 ≤ 4611686018427387904)) (
   bdO (fiducialref01_made n false (o_18 ++ [wrapF .u32 c_19])) fun v40 => (
   some (v40.Groups)
   )
   )
   )
  ))

def fiducialref01_Add (n : Nat) (x' : api_Int) (y : api_Int) : Option (api_Int) :=
 bdO (fiducialref01_Value n x') fun v1 => (
 bdO (fiducialref01_Value n y) fun v3 => (
 cdO (v1.Negative == v3.Negative) (
  bdO (fiducialref01_plus n v1.Groups v3.Groups) fun v6 => (
  bdO (fiducialref01_made n v1.Negative v6) fun v8 => (
  some (v8)
  )
  )
 ) (
  bdO (fiducialref01_size n v1.Groups v3.Groups) fun v10 => (
  cdO (decide (v10 ≥ 0)) (
   bdO (fiducialref01_minus n v1.Groups v3.Groups) fun v13 => (
   bdO (fiducialref01_made n v1.Negative v13) fun v15 => (
   some (v15)
   )
   )
  ) (
   bdO (fiducialref01_minus n v3.Groups v1.Groups) fun v17 => (
   bdO (fiducialref01_made n v3.Negative v17) fun v19 => (
   some (v19)
   )
   )
  )
  )
 )
 )
 )

def fiducialref01_Sub (n : Nat) (x' : api_Int) (y : api_Int) : Option (api_Int) :=
 bdO (fiducialref01_Neg n y) fun v1 => (
 bdO (fiducialref01_Add n x' v1) fun v3 => (
 some (v3)
 )
 )

def fiducialref01_Mul (n : Nat) (x' : api_Int) (y : api_Int) : Option (api_Int) :=
 bdO (fiducialref01_Value n x') fun v1 => (
 bdO (fiducialref01_Value n y) fun v3 => (
 gdO (decide (0 ≤ wrapF .i64 ((v1.Groups.length : Int) + (v3.Groups.length : Int)))) (
 gdO (decide ((4 : Int) * (wrapF .i64 ((v1.Groups.length : Int) + (v3.Groups.length : Int))) ≤ 281474976710656)) (
 gdO (decide (wrapF .i64 ((v1.Groups.length : Int) + (v3.Groups.length : Int)) ≤ 9223372036854775807)) (
 bdO (loopO (α := List Int × Int) (β := List Int) n (fun again30 (o_8, i_9) => (
  cdO (decide (i_9 < (v1.Groups.length : Int))) (
   bdO (loopO (α := List Int × Int × Int) (β := List Int × Int) n (fun again41 (o_32, c_33, j_34) => (
    cdO (decide (j_34 < (v3.Groups.length : Int))) (
     gdO (inR (wrapF .i64 (i_9 + j_34)) o_32.length) (
     gdO (inR i_9 v1.Groups.length) (
     gdO (inR j_34 v3.Groups.length) (
     again41 (o_32.set (wrapF .i64 (i_9 + j_34)).toNat (wrapF .u32 ((wrapF .u64 ((wrapF .u64 ((wrapF .u64 (gt o_32 (wrapF .i64 (i_9 + j_34)))) + (wrapF .u64 ((wrapF .u64 (gt v1.Groups i_9)) * (wrapF .u64 (gt v3.Groups j_34)))))) + c_33)).tmod 1000000000)), wrapF .u64 ((wrapF .u64 ((wrapF .u64 ((wrapF .u64 (gt o_32 (wrapF .i64 (i_9 + j_34)))) + (wrapF .u64 ((wrapF .u64 (gt v1.Groups i_9)) * (wrapF .u64 (gt v3.Groups j_34)))))) + c_33)).tdiv 1000000000), wrapF .i64 (j_34 + 1))
     )
     )
     )
    ) (
     some ((o_32, c_33))
    )
   )) (o_8, 0, 0)) fun o46 => (
    match o46 with
    | (o_39, c_40) => (
     gdO (inR (wrapF .i64 (i_9 + (v3.Groups.length : Int))) o_39.length) (
     again30 (o_39.set (wrapF .i64 (i_9 + (v3.Groups.length : Int))).toNat (wrapF .u32 c_40), wrapF .i64 (i_9 + 1))
     )
    ))
  ) (
   some (o_8)
  )
 )) (List.replicate (wrapF .i64 ((v1.Groups.length : Int) + (v3.Groups.length : Int))).toNat ((0 : Int) : Int), 0)) fun o_29 => (
  bdO (fiducialref01_made n (v1.Negative != v3.Negative) o_29) fun v53 => (
  some (v53)
  )
 )
 )
 )
 )
 )
 )

def fiducialref01_Divide (n : Nat) (x' : api_Int) (y : api_Int) : Option (api_Int × api_Int × Int) :=
 bdO (fiducialref01_Value n x') fun v1 => (
 bdO (fiducialref01_Value n y) fun v3 => (
 cdO (((v3.Groups.length : Int) : Int) == 0) (
  some ((api_Int.mk false [], api_Int.mk false [], 14))
 ) (
  bdO (fiducialref01_parts n v1.Groups v3.Groups) fun v6 => (
  bdO (fiducialref01_made n (v1.Negative != v3.Negative) v6.1) fun v8 => (
  cdO (v1.Negative != v3.Negative) (
   cdO (decide ((v6.2.length : Int) > 0)) (
    bdO (fiducialref01_Of n 1) fun v12 => (
    bdO (fiducialref01_Sub n v8 v12) fun v14 => (
    bdO (fiducialref01_Mul n v14 v3) fun v16 => (
    bdO (fiducialref01_Sub n v1 v16) fun v18 => (
    some ((v14, v18, 0))
    )
    )
    )
    )
   ) (
    bdO (fiducialref01_Mul n v8 v3) fun v20 => (
    bdO (fiducialref01_Sub n v1 v20) fun v22 => (
    some ((v8, v22, 0))
    )
    )
   )
  ) (
   bdO (fiducialref01_Mul n v8 v3) fun v24 => (
   bdO (fiducialref01_Sub n v1 v24) fun v26 => (
   some ((v8, v26, 0))
   )
   )
  )
  )
  )
 )
 )
 )

def fiducialref02_reduced (n : Nat) (num : api_Int) (den : api_Int) : Option (api_Rat) :=
 bdO (fiducialref01_Gcd n num den) fun v1 => (
 bdO (fiducialref01_Sign n den) fun v3 => (
 cdO (decide (v3 < 0)) (
  bdO (fiducialref01_Neg n v1) fun v6 => (
  bdO (fiducialref01_Divide n num v6) fun v8 => (
  bdO (fiducialref01_Divide n den v6) fun v10 => (
  some (api_Rat.mk v8.1 v10.1)
  )
  )
  )
 ) (
  bdO (fiducialref01_Divide n num v1) fun v12 => (
  bdO (fiducialref01_Divide n den v1) fun v14 => (
  some (api_Rat.mk v12.1 v14.1)
  )
  )
 )
 )
 )

def fiducialref02_New (n : Nat) (num : api_Int) (den : api_Int) : Option (api_Rat × Int) :=
 bdO (fiducialref01_Sign n den) fun v1 => (
 cdO ((v1 : Int) == 0) (
  some ((api_Rat.mk (api_Int.mk false []) (api_Int.mk false []), 14))
 ) (
  bdO (fiducialref02_reduced n num den) fun v4 => (
  some ((v4, 0))
  )
 )
 )

def fiducialref02_Of (n : Nat) (n' : Int) (d : Int) : Option (api_Rat × Int) :=
 bdO (fiducialref02_whole n n') fun v1 => (
 bdO (fiducialref02_whole n d) fun v3 => (
 bdO (fiducialref02_New n v1 v3) fun v5 => (
 some ((v5.1, v5.2))
 )
 )
 )

def slices_Index_int_int (n : Nat) (s : List Int) (v : Int) : Option (Int) :=
 bdO (loopO (α := Int) (β := Sum (Unit) (Int)) n (fun again5 x_1 => (
  cdO (decide (x_1 < (s.length : Int))) (
   gdO (inR x_1 s.length) (
   cdO ((v : Int) == (gt s x_1)) (
    some (Sum.inr (x_1))
   ) (
    again5 (wrapF .i64 (x_1 + 1))
   )
   )
  ) (
   some (Sum.inl ())
  )
 )) 0) fun o9 => (
  match o9 with
  | .inl _ => (
   some ((-1))
  )
  | .inr (r0) => (
   some r0
  ))

def slices_Contains_int_int (n : Nat) (s : List Int) (v : Int) : Option (Bool) :=
 bdO (slices_Index_int_int n s v) fun v1 => (
 some (decide (v1 ≥ 0))
 )

def slices_Min_int_int (n : Nat) (x' : List Int) : Option (Int) :=
 gdO (!(decide ((x'.length : Int) < 1))) (
 gdO (inR 0 x'.length) (
 bdO (loopO (α := Int × Int) (β := Int) n (fun again8 (m_3, i_4) => (
  cdO (decide (i_4 < (x'.length : Int))) (
   gdO (inR i_4 x'.length) (
   again8 (mn m_3 (gt x' i_4), wrapF .i64 (i_4 + 1))
   )
  ) (
   some (m_3)
  )
 )) ((gt x' 0), 1)) fun m_7 => (
  some (m_7)
 )
 )
 )

def volume_Solid_1_w (n : Nat) (a : Int) (b : Int) (p : List api_Spot) (p' : List (A3 Int)) (p'' : Int) : Option (List (A3 Int)) :=
 gdO (decide ((p'.length + 2) * 24 ≤ 140737488355328)) (
 gdO (decide (p'.length + 2 ≤ 4611686018427387904)) (
 some (p' ++ [A3.mk a (wrapF .i64 (a + p'')) (wrapF .i64 (b + p'')), A3.mk a (wrapF .i64 (b + p'')) b])
 )
 )

def volume_Solid (n : Nat) (g : api_Grid) (base : Int) : Option (api_Mesh × Int) :=
 bdO (terrain_Check n g) fun v1 => (
 cdO ((v1 : Int) != 0) (
  some ((api_Mesh.mk [] [], v1))
 ) (
  cdO (decide ((g.Z.length : Int) > 256)) (
   some ((api_Mesh.mk [] [], 3))
  ) (
   bdO (slices_Contains_int_int n g.Z (-2147483648)) fun v7 => (
   cdO v7 (
    some ((api_Mesh.mk [] [], 6))
   ) (
    bdO (volume_far n base) fun v11 => (
    cdO v11 (
     some ((api_Mesh.mk [] [], 2))
    ) (
     bdO (slices_Min_int_int n g.Z) fun v14 => (
     cdO (decide (v14 < base)) (
      some ((api_Mesh.mk [] [], 2))
     ) (
      bdO (loopO (α := List api_Spot × Int) (β := List api_Spot) n (fun again58 (o_45, x_46) => (
       cdO (decide (x_46 < (wrapF .i64 (2 * (g.Z.length : Int))))) (
        gdO (!decide ((g.Z.length : Int) = 0)) (
        gdO (!decide (g.Width = 0)) (
        cdO (decide (x_46 < (g.Z.length : Int))) (
         gdO (inR x_46 g.Z.length) (
         gdO (decide ((o_45.length + 1) * 24 ≤ 140737488355328)) (
         gdO (decide (o_45.length + 1 ≤ 4611686018427387904)) (
         again58 (o_45 ++ [api_Spot.mk (wrapF .i64 (g.X0 + (wrapF .i64 (((x_46.tmod (g.Z.length : Int)).tmod g.Width) * g.Step)))) (wrapF .i64 (g.Y0 + (wrapF .i64 ((wrapF .i64 ((x_46.tmod (g.Z.length : Int)).tdiv g.Width)) * g.Step)))) (gt g.Z x_46)], wrapF .i64 (x_46 + 1))
         )
         )
         )
        ) (
         gdO (decide ((o_45.length + 1) * 24 ≤ 140737488355328)) (
         gdO (decide (o_45.length + 1 ≤ 4611686018427387904)) (
         again58 (o_45 ++ [api_Spot.mk (wrapF .i64 (g.X0 + (wrapF .i64 (((x_46.tmod (g.Z.length : Int)).tmod g.Width) * g.Step)))) (wrapF .i64 (g.Y0 + (wrapF .i64 ((wrapF .i64 ((x_46.tmod (g.Z.length : Int)).tdiv g.Width)) * g.Step)))) base], wrapF .i64 (x_46 + 1))
         )
         )
        )
        )
        )
       ) (
        some (o_45)
       )
      )) ([], 0)) fun o_57 => (
       bdO (volume_triangles n g) fun v72 => (
       bdO (loopO (α := List (A3 Int) × Int) (β := List (A3 Int)) n (fun again99 (o_91, x_92) => (
        cdO (decide (x_92 < (v72.length : Int))) (
         gdO (inR x_92 v72.length) (
         gdO (decide ((o_91.length + 2) * 24 ≤ 140737488355328)) (
         gdO (decide (o_91.length + 2 ≤ 4611686018427387904)) (
         again99 (o_91 ++ [(gt v72 x_92), A3.mk (wrapF .i64 ((gt v72 x_92).e0 + (g.Z.length : Int))) (wrapF .i64 ((gt v72 x_92).e2 + (g.Z.length : Int))) (wrapF .i64 ((gt v72 x_92).e1 + (g.Z.length : Int)))], wrapF .i64 (x_92 + 1))
         )
         )
         )
        ) (
         some (o_91)
        )
       )) ([], 0)) fun o_98 => (
        bdO (loopO (α := List (A3 Int) × Int) (β := List (A3 Int)) n (fun again136 (o_127, x_128) => (
         cdO (decide (x_128 < (wrapF .i64 (g.Width - 1)))) (
          bdO (volume_Solid_1_w n x_128 (wrapF .i64 (x_128 + 1)) o_57 o_127 (g.Z.length : Int)) fun v139 => (
          bdO (volume_Solid_1_w n (wrapF .i64 ((wrapF .i64 ((g.Z.length : Int) - 1)) - x_128)) (wrapF .i64 ((wrapF .i64 ((g.Z.length : Int) - 2)) - x_128)) o_57 v139 (g.Z.length : Int)) fun v141 => (
          again136 (v141, wrapF .i64 (x_128 + 1))
          )
          )
         ) (
          some (o_127)
         )
        )) (o_98, 0)) fun o_135 => (
         bdO (loopO (α := List (A3 Int) × Int) (β := List (A3 Int)) n (fun again155 (o_146, x_147) => (
          cdO (decide (x_147 < (wrapF .i64 (g.Height - 1)))) (
           bdO (volume_Solid_1_w n (wrapF .i64 ((wrapF .i64 ((wrapF .i64 (x_147 * g.Width)) + g.Width)) - 1)) (wrapF .i64 ((wrapF .i64 ((wrapF .i64 ((wrapF .i64 (x_147 + 1)) * g.Width)) + g.Width)) - 1)) o_57 o_146 (g.Z.length : Int)) fun v158 => (
           bdO (volume_Solid_1_w n (wrapF .i64 ((wrapF .i64 (x_147 + 1)) * g.Width)) (wrapF .i64 (x_147 * g.Width)) o_57 v158 (g.Z.length : Int)) fun v160 => (
           again155 (v160, wrapF .i64 (x_147 + 1))
           )
           )
          ) (
           some (o_146)
          )
         )) (o_135, 0)) fun o_154 => (
          some ((api_Mesh.mk o_57 o_154, 0))
         )
        )
       )
       )
      )
     )
     )
    )
    )
   )
   )
  )
 )
 )

def fiducialref01_Compare (n : Nat) (x' : api_Int) (y : api_Int) : Option (Int) :=
 bdO (fiducialref01_Sub n x' y) fun v1 => (
 bdO (fiducialref01_Sign n v1) fun v3 => (
 some (v3)
 )
 )

def fiducialref02_Valid (n : Nat) (x' : api_Rat) : Option (Bool) :=
 bdO (fiducialref01_Valid n x'.Num) fun v1 => (
 cdO (!v1) (
  some (false)
 ) (
  bdO (fiducialref01_Valid n x'.Den) fun v4 => (
  cdO (!v4) (
   some (false)
  ) (
   bdO (fiducialref01_Sign n x'.Den) fun v7 => (
   cdO (decide (v7 ≤ 0)) (
    some (false)
   ) (
    bdO (fiducialref01_Gcd n x'.Num x'.Den) fun v10 => (
    bdO (fiducialref02_whole n 1) fun v12 => (
    bdO (fiducialref01_Compare n v10 v12) fun v14 => (
    some ((v14 : Int) == 0)
    )
    )
    )
   )
   )
  )
  )
 )
 )

def fiducialref02_Value (n : Nat) (x' : api_Rat) : Option (api_Rat) :=
 bdO (fiducialref02_Valid n x') fun v1 => (
 cdO v1 (
  some (x')
 ) (
  bdO (fiducialref02_Whole n 0) fun v4 => (
  some (v4)
  )
 )
 )

def fiducialref02_Neg (n : Nat) (x' : api_Rat) : Option (api_Rat) :=
 bdO (fiducialref02_Value n x') fun v1 => (
 bdO (fiducialref01_Neg n v1.Num) fun v3 => (
 some (api_Rat.mk v3 v1.Den)
 )
 )

def fiducialref02_Add (n : Nat) (x' : api_Rat) (y : api_Rat) : Option (api_Rat) :=
 bdO (fiducialref02_Value n x') fun v1 => (
 bdO (fiducialref02_Value n y) fun v3 => (
 bdO (fiducialref01_Mul n v1.Num v3.Den) fun v5 => (
 bdO (fiducialref01_Mul n v3.Num v1.Den) fun v7 => (
 bdO (fiducialref01_Add n v5 v7) fun v9 => (
 bdO (fiducialref01_Mul n v1.Den v3.Den) fun v11 => (
 bdO (fiducialref02_reduced n v9 v11) fun v13 => (
 some (v13)
 )
 )
 )
 )
 )
 )
 )

def fiducialref02_Sub (n : Nat) (x' : api_Rat) (y : api_Rat) : Option (api_Rat) :=
 bdO (fiducialref02_Neg n y) fun v1 => (
 bdO (fiducialref02_Add n x' v1) fun v3 => (
 some (v3)
 )
 )

def fiducialref02_Sign (n : Nat) (x' : api_Rat) : Option (Int) :=
 bdO (fiducialref02_Value n x') fun v1 => (
 bdO (fiducialref01_Sign n v1.Num) fun v3 => (
 some (v3)
 )
 )

def fiducialref02_Compare (n : Nat) (x' : api_Rat) (y : api_Rat) : Option (Int) :=
 bdO (fiducialref02_Sub n x' y) fun v1 => (
 bdO (fiducialref02_Sign n v1) fun v3 => (
 some (v3)
 )
 )

def fiducialref02_Same (n : Nat) (x' : api_Rat) (y : api_Rat) : Option (Bool) :=
 bdO (fiducialref02_Valid n x') fun v1 => (
 cdO v1 (
  bdO (fiducialref02_Valid n y) fun v4 => (
  cdO v4 (
   bdO (fiducialref02_Compare n x' y) fun v7 => (
   some ((v7 : Int) == 0)
   )
  ) (
   some (false)
  )
  )
 ) (
  some (false)
 )
 )

def fiducialref02_SameRat (n : Nat) (x' : api_Rat) (y : api_Rat) : Option (Bool) :=
 bdO (fiducialref02_Same n x' y) fun v1 => (
 some (v1)
 )

def fiduciallaw52_known (n : Nat) : Option (Bool) :=
 bdO (fiducialref02_Int n 2) fun v1 => (
 bdO (fiducialref02_Int n (-1)) fun v3 => (
 bdO (fiducialref02_Int n (-1)) fun v5 => (
 bdO (volume_Triangle n v1 v3 v5) fun v7 => (
 bdO (volume_Level n (api_Grid.mk 0 0 10 2 2 [(3 : Int), (0 : Int), (0 : Int), (0 : Int)]) 0) fun v9 => (
 bdO (volume_Area n (api_Grid.mk 0 0 10 2 2 [(3 : Int), (0 : Int), (0 : Int), (0 : Int)])) fun v11 => (
 bdO (fiducialref02_Of n 8 27) fun v13 => (
 bdO (volume_Solid n (api_Grid.mk 0 0 10 2 2 [(3 : Int), (0 : Int), (0 : Int), (0 : Int)]) 0) fun v15 => (
 cdO (((wrapF .i64 ((wrapF .i64 (v9.2.2 + v11.2)) + v15.2)) : Int) == 0) (
  bdO (fiducialref02_SameRat n v7.1 v13.1) fun v18 => (
  cdO v18 (
   bdO (fiducialref02_SameRat n v7.2 v13.1) fun v21 => (
   cdO v21 (
    bdO (fiducialref02_Int n 100) fun v24 => (
    bdO (fiducialref02_SameRat n v9.1 v24) fun v26 => (
    cdO v26 (
     bdO (fiducialref02_Int n 0) fun v29 => (
     bdO (fiducialref02_SameRat n v9.2.1 v29) fun v31 => (
     cdO v31 (
      cdO ((v11.1 : Int) == 200) (
       cdO (((v15.1.Vertices.length : Int) : Int) == 8) (
        some (((v15.1.Faces.length : Int) : Int) == 12)
       ) (
        some (false)
       )
      ) (
       some (false)
      )
     ) (
      some (false)
     )
     )
     )
    ) (
     some (false)
    )
    )
    )
   ) (
    some (false)
   )
   )
  ) (
   some (false)
  )
  )
 ) (
  some (false)
 )
 )
 )
 )
 )
 )
 )
 )
 )

noncomputable def fiduciallaw52_VolumeSolid (n : Nat) (heights : List Int) (width : Int) (base : Int) : Option (Bool) :=
 bdO (fiduciallaw52_known n) fun v1 => (
 cdO (!v1) (
  some (false)
 ) (
  gdO (!decide (wrapF .i64 (2 + ((wrapF .i64 width).tmod 4)) = 0)) (
  cdO (decide ((wrapF .i64 ((heights.length : Int).tdiv (wrapF .i64 (2 + ((wrapF .i64 width).tmod 4))))) < 2)) (
   some (true)
  ) (
   cdO (decide ((wrapF .i64 ((heights.length : Int).tdiv (wrapF .i64 (2 + ((wrapF .i64 width).tmod 4))))) > 5)) (
    some (true)
   ) (
    bdO (loopO (α := List Int × Int) (β := List Int) n (fun again34 (g_26, x_27) => (
     cdO (decide (x_27 < (wrapF .i64 ((wrapF .i64 (2 + ((wrapF .i64 width).tmod 4))) * (wrapF .i64 ((heights.length : Int).tdiv (wrapF .i64 (2 + ((wrapF .i64 width).tmod 4))))))))) (
      gdO (inR x_27 heights.length) (
      gdO (decide ((g_26.length + 1) * 8 ≤ 140737488355328)) (
      gdO (decide (g_26.length + 1 ≤ 4611686018427387904)) (
      again34 (g_26 ++ [wrapF .i64 ((wrapF .i64 base) + (wrapF .i64 (gt heights x_27)))], wrapF .i64 (x_27 + 1))
      )
      )
      )
     ) (
      some (g_26)
     )
    )) ([], 0)) fun g_33 => (
     bdO (volume_Solid n (api_Grid.mk 7 (-5) 6 (wrapF .i64 (2 + ((wrapF .i64 width).tmod 4))) (wrapF .i64 ((heights.length : Int).tdiv (wrapF .i64 (2 + ((wrapF .i64 width).tmod 4))))) g_33) (wrapF .i64 base)) fun v43 => (
     bdO (volume_Level n (api_Grid.mk 7 (-5) 6 (wrapF .i64 (2 + ((wrapF .i64 width).tmod 4))) (wrapF .i64 ((heights.length : Int).tdiv (wrapF .i64 (2 + ((wrapF .i64 width).tmod 4))))) g_33) (wrapF .i64 base)) fun v45 => (
     cdO ((v43.2 : Int) != 0) (
      some (false)
     ) (
      cdO ((v45.2.2 : Int) != 0) (
       some (false)
      ) (
       bdO (fiducialref02_Sign n v45.2.1) fun v49 => (
       cdO ((v49 : Int) != 0) (
        some (false)
       ) (
        bdO (loopO (α := List (A2 Int × Int) × Int × Int) (β := Sum (List (A2 Int × Int) × Int) (Bool)) n (fun again157 (e_122, s_123, x_124) => (
         cdO (decide (x_124 < (v43.1.Faces.length : Int))) (
          gdO (inR x_124 v43.1.Faces.length) (
          cdO (decide ((gt v43.1.Faces x_124).e0 < 0)) (
           some (Sum.inr (false))
          ) (
           cdO (decide ((gt v43.1.Faces x_124).e0 ≥ (v43.1.Vertices.length : Int))) (
            some (Sum.inr (false))
           ) (
            cdO (((gt v43.1.Faces x_124).e0 : Int) == (gt v43.1.Faces x_124).e1) (
             some (Sum.inr (false))
            ) (
             cdO (decide ((gt v43.1.Faces x_124).e1 < 0)) (
              some (Sum.inr (false))
             ) (
              cdO (decide ((gt v43.1.Faces x_124).e1 ≥ (v43.1.Vertices.length : Int))) (
               some (Sum.inr (false))
              ) (
               cdO (((gt v43.1.Faces x_124).e1 : Int) == (gt v43.1.Faces x_124).e2) (
                some (Sum.inr (false))
               ) (
                cdO (decide ((gt v43.1.Faces x_124).e2 < 0)) (
                 some (Sum.inr (false))
                ) (
                 cdO (decide ((gt v43.1.Faces x_124).e2 ≥ (v43.1.Vertices.length : Int))) (
                  some (Sum.inr (false))
                 ) (
                  cdO (((gt v43.1.Faces x_124).e2 : Int) == (gt v43.1.Faces x_124).e0) (
                   some (Sum.inr (false))
                  ) (
                   gdO (inR (gt v43.1.Faces x_124).e0 v43.1.Vertices.length) (
                   gdO (inR (gt v43.1.Faces x_124).e1 v43.1.Vertices.length) (
                   gdO (inR (gt v43.1.Faces x_124).e2 v43.1.Vertices.length) (
                   again157 (putM (putM (putM e_122 (A2.mk (gt v43.1.Faces x_124).e0 (gt v43.1.Faces x_124).e1) (wrapF .i64 ((getM 0 e_122 (A2.mk (gt v43.1.Faces x_124).e0 (gt v43.1.Faces x_124).e1)) + 1))) (A2.mk (gt v43.1.Faces x_124).e1 (gt v43.1.Faces x_124).e2) (wrapF .i64 ((getM 0 (putM e_122 (A2.mk (gt v43.1.Faces x_124).e0 (gt v43.1.Faces x_124).e1) (wrapF .i64 ((getM 0 e_122 (A2.mk (gt v43.1.Faces x_124).e0 (gt v43.1.Faces x_124).e1)) + 1))) (A2.mk (gt v43.1.Faces x_124).e1 (gt v43.1.Faces x_124).e2)) + 1))) (A2.mk (gt v43.1.Faces x_124).e2 (gt v43.1.Faces x_124).e0) (wrapF .i64 ((getM 0 (putM (putM e_122 (A2.mk (gt v43.1.Faces x_124).e0 (gt v43.1.Faces x_124).e1) (wrapF .i64 ((getM 0 e_122 (A2.mk (gt v43.1.Faces x_124).e0 (gt v43.1.Faces x_124).e1)) + 1))) (A2.mk (gt v43.1.Faces x_124).e1 (gt v43.1.Faces x_124).e2) (wrapF .i64 ((getM 0 (putM e_122 (A2.mk (gt v43.1.Faces x_124).e0 (gt v43.1.Faces x_124).e1) (wrapF .i64 ((getM 0 e_122 (A2.mk (gt v43.1.Faces x_124).e0 (gt v43.1.Faces x_124).e1)) + 1))) (A2.mk (gt v43.1.Faces x_124).e1 (gt v43.1.Faces x_124).e2)) + 1))) (A2.mk (gt v43.1.Faces x_124).e2 (gt v43.1.Faces x_124).e0)) + 1)), wrapF .i64 (s_123 + (wrapF .i64 ((wrapF .i64 ((wrapF .i64 ((gt v43.1.Vertices (gt v43.1.Faces x_124).e0).X * (wrapF .i64 ((wrapF .i64 ((gt v43.1.Vertices (gt v43.1.Faces x_124).e1).Y * (gt v43.1.Vertices (gt v43.1.Faces x_124).e2).Z)) - (wrapF .i64 ((gt v43.1.Vertices (gt v43.1.Faces x_124).e1).Z * (gt v43.1.Vertices (gt v43.1.Faces x_124).e2).Y)))))) + (wrapF .i64 ((gt v43.1.Vertices (gt v43.1.Faces x_124).e0).Y * (wrapF .i64 ((wrapF .i64 ((gt v43.1.Vertices (gt v43.1.Faces x_124).e1).Z * (gt v43.1.Vertices (gt v43.1.Faces x_124).e2).X)) - (wrapF .i64 ((gt v43.1.Vertices (gt v43.1.Faces x_124).e1).X * (gt v43.1.Vertices (gt v43.1.Faces x_124).e2).Z)))))))) + (wrapF .i64 ((gt v43.1.Vertices (gt v43.1.Faces x_124).e0).Z * (wrapF .i64 ((wrapF .i64 ((gt v43.1.Vertices (gt v43.1.Faces x_124).e1).X * (gt v43.1.Vertices (gt v43.1.Faces x_124).e2).Y)) - (wrapF .i64 ((gt v43.1.Vertices (gt v43.1.Faces x_124).e1).Y * (gt v43.1.Vertices (gt v43.1.Faces x_124).e2).X))))))))), wrapF .i64 (x_124 + 1))
                   )
                   )
                   )
                  )
                 )
                )
               )
              )
             )
            )
           )
          )
          )
         ) (
          some (Sum.inl (e_122, s_123))
         )
        )) (([] : List (A2 Int × Int)), 0, 0)) fun o188 => (
         match o188 with
         | .inl (e_155, s_156) => (
          rngM (ε := A2 Int × Int) (σ := Bool) e_155 (fun o_202 e198 => (
           cdO o_202 (
            some (true)
           ) (
            some (((getM 0 e_155 (A2.mk e198.1.e1 e198.1.e0)) : Int) != e198.2)
           )
          )) false fun o_202 => (
           bdO (fiducialref02_Of n s_156 6) fun v205 => (
           cdO (!o_202) (
            bdO (fiducialref02_SameRat n v205.1 v45.1) fun v208 => (
            some (v208)
            )
           ) (
            some (false)
           )
           )
          )
         )
         | .inr (r0) => (
          some r0
         ))
       )
       )
      )
     )
     )
     )
    )
   )
  )
  )
 )
 )
end Go.L
