/- The program's functions as plain Lean programs, printed by a program. -/
import Derived.Test.YtndahnebnggdmaaGreatSc11knceefag
import Derived.Test.YtndahnebnggdmaaGreatSc20ocgifoif
set_option linter.all false
set_option maxRecDepth 100000
set_option maxHeartbeats 4000000
namespace Go.L
open Go Go.Eng
structure api_Survey where
 Width : Int
 Height : Int
 Low : Int
 High : Int
 Across : Int
 Along : Int
 Focal : Int
 Overlap : Int
 Sidelap : Int
 Views : Int
 deriving Inhabited

structure api_Pix where
 X : Int
 Y : Int
 deriving Inhabited

structure api_Flight where
 Height : Int
 Strips : List (List api_Pix)
 deriving Inhabited

def api_Pix.c (x : api_Pix) : List AV := [.at (.int .i64 x.X), .at (.int .i64 x.Y)]
theorem api_Pix.len : ∀ x, (api_Pix.c x).length = 2 := fun _ => rfl
theorem api_Pix.pure : ∀ x, idsOfL (api_Pix.c x) = [] := fun _ => rfl

structure plan_row where
 f_a : Int
 f_b : Int
 f_d : Int
 deriving Inhabited

structure api_Int where
 Negative : Bool
 Groups : List Int
 deriving Inhabited

structure api_Rat where
 Num : api_Int
 Den : api_Int
 deriving Inhabited

structure api_Place where
 X : api_Rat
 Y : api_Rat
 deriving Inhabited

structure A4 (α : Type) where
 e0 : α
 e1 : α
 e2 : α
 e3 : α
 deriving Inhabited

def A4_plan_set.c (x : A4 Int) : List AV := [.at (.int .u64 x.e0), .at (.int .u64 x.e1), .at (.int .u64 x.e2), .at (.int .u64 x.e3)]
theorem A4_plan_set.len : ∀ x, (A4_plan_set.c x).length = 4 := fun _ => rfl
theorem A4_plan_set.pure : ∀ x, idsOfL (A4_plan_set.c x) = [] := fun _ => rfl

def A4.get (x : A4 Int) (j : Int) : Int := gt [x.e0, x.e1, x.e2, x.e3] j
def A4.put (x : A4 Int) (j v : Int) : A4 Int := ⟨if j.toNat = 0 then v else x.e0, if j.toNat = 1 then v else x.e1, if j.toNat = 2 then v else x.e2, if j.toNat = 3 then v else x.e3⟩
theorem A4.put_c {k : IntKind} (x : A4 Int) {j : Int} (v : Int) (h : inR j 4 = true) : setCells [.at (.int k x.e0), .at (.int k x.e1), .at (.int k x.e2), .at (.int k x.e3)] j.toNat [.at (.int k v)] = [.at (.int k (x.put j v).e0), .at (.int k (x.put j v).e1), .at (.int k (x.put j v).e2), .at (.int k (x.put j v).e3)] := by
 have h1 := inR_lt h
 have hj : j.toNat = 0 ∨ j.toNat = 1 ∨ j.toNat = 2 ∨ j.toNat = 3 := by omega
 unfold A4.put
 rcases hj with e | e | e | e <;> simp only [e] <;> rfl

def api_Survey.c (x : api_Survey) : List AV := [.at (.int .i64 x.Width), .at (.int .i64 x.Height), .at (.int .i64 x.Low), .at (.int .i64 x.High), .at (.int .i64 x.Across), .at (.int .i64 x.Along), .at (.int .i64 x.Focal), .at (.int .i64 x.Overlap), .at (.int .i64 x.Sidelap), .at (.int .i64 x.Views)]
theorem api_Survey.len : ∀ x, (api_Survey.c x).length = 10 := fun _ => rfl
theorem api_Survey.pure : ∀ x, idsOfL (api_Survey.c x) = [] := fun _ => rfl

def api_Place.c (x : api_Place) : List AV := [.at (.bool x.X.Num.Negative), slT (iC .u32) x.X.Num.Groups, .at (.bool x.X.Den.Negative), slT (iC .u32) x.X.Den.Groups, .at (.bool x.Y.Num.Negative), slT (iC .u32) x.Y.Num.Groups, .at (.bool x.Y.Den.Negative), slT (iC .u32) x.Y.Den.Groups]
theorem api_Place.len : ∀ x, (api_Place.c x).length = 8 := fun _ => rfl
theorem api_Place.pure : ∀ x, idsOfL (api_Place.c x) = [] := fun _ => rfl

def api_Rat.c (x : api_Rat) : List AV := [.at (.bool x.Num.Negative), slT (iC .u32) x.Num.Groups, .at (.bool x.Den.Negative), slT (iC .u32) x.Den.Groups]
theorem api_Rat.len : ∀ x, (api_Rat.c x).length = 4 := fun _ => rfl
theorem api_Rat.pure : ∀ x, idsOfL (api_Rat.c x) = [] := fun _ => rfl

def plan_row.c (x : plan_row) : List AV := [.at (.int .i64 x.f_a), .at (.int .i64 x.f_b), .at (.int .i64 x.f_d)]
theorem plan_row.len : ∀ x, (plan_row.c x).length = 3 := fun _ => rfl
theorem plan_row.pure : ∀ x, idsOfL (plan_row.c x) = [] := fun _ => rfl

def api_Flight.c (x : api_Flight) : List AV := [.at (.int .i64 x.Height), slT (slC api_Pix.c) x.Strips]
theorem api_Flight.len : ∀ x, (api_Flight.c x).length = 2 := fun _ => rfl
theorem api_Flight.pure : ∀ x, idsOfL (api_Flight.c x) = [] := fun _ => rfl

def api_Int.c (x : api_Int) : List AV := [.at (.bool x.Negative), slT (iC .u32) x.Groups]
theorem api_Int.len : ∀ x, (api_Int.c x).length = 2 := fun _ => rfl
theorem api_Int.pure : ∀ x, idsOfL (api_Int.c x) = [] := fun _ => rfl

def fiduciallaw55_example (n : Nat) : Option (api_Survey) :=
 some (api_Survey.mk 100 30 0 0 40 64 64 60 20 1)

def plan_Check_1 (n : Nat) (n' : Int) (most : Int) : Option (Bool) :=
 cdO (decide (n' ≥ 1)) (
  some (decide (n' ≤ most))
 ) (
  some (false)
 )

def plan_within (n : Nat) (n' : Int) : Option (Bool) :=
 cdO (decide (n' ≥ (-1048576))) (
  some (decide (n' ≤ 1048576))
 ) (
  some (false)
 )

def plan_Check_2 (n : Nat) (n' : Int) : Option (Bool) :=
 cdO (decide (n' ≥ 0)) (
  some (decide (n' ≤ 95))
 ) (
  some (false)
 )

def plan_Check (n : Nat) (s : api_Survey) : Option (Int) :=
 bdO (plan_Check_1 n s.Width 1048576) fun v1 => (
 cdO (!v1) (
  some (2)
 ) (
  bdO (plan_Check_1 n s.Height 1048576) fun v4 => (
  cdO (!v4) (
   some (2)
  ) (
   bdO (plan_within n s.Low) fun v7 => (
   cdO (!v7) (
    some (2)
   ) (
    bdO (plan_within n s.High) fun v10 => (
    cdO (!v10) (
     some (2)
    ) (
     bdO (plan_Check_1 n s.Across 1048576) fun v13 => (
     cdO (!v13) (
      some (2)
     ) (
      bdO (plan_Check_1 n s.Along 1048576) fun v16 => (
      cdO (!v16) (
       some (2)
      ) (
       bdO (plan_Check_1 n s.Focal 1048576) fun v19 => (
       cdO (!v19) (
        some (2)
       ) (
        bdO (plan_Check_2 n s.Overlap) fun v22 => (
        cdO (!v22) (
         some (2)
        ) (
         bdO (plan_Check_2 n s.Sidelap) fun v25 => (
         cdO (!v25) (
          some (2)
         ) (
          bdO (plan_Check_1 n s.Views 16) fun v28 => (
          cdO (!v28) (
           some (2)
          ) (
           cdO (decide (s.Low > s.High)) (
            some (5)
           ) (
            some (0)
           )
          )
          )
         )
         )
        )
        )
       )
       )
      )
      )
     )
     )
    )
    )
   )
   )
  )
  )
 )
 )

def plan_newRow (n : Nat) (n' : Int) (size : Int) (focal : Int) (percent : Int) : Option (plan_row) :=
 gdO (!decide (wrapF .i64 (2 * focal) = 0)) (
 gdO (!decide (wrapF .i64 (100 * focal) = 0)) (
 some (plan_row.mk (wrapF .i64 (size.tdiv (wrapF .i64 (2 * focal)))) (wrapF .i64 (n' - (wrapF .i64 (size.tdiv (wrapF .i64 (2 * focal)))))) (wrapF .i64 ((wrapF .i64 ((wrapF .i64 (100 - percent)) * size)).tdiv (wrapF .i64 (100 * focal)))))
 )
 )

def fiducial_plan_row_count (n : Nat) (r' : plan_row) : Option (Int) :=
 cdO (decide (r'.f_b ≤ r'.f_a)) (
  some (1)
 ) (
  cdO ((r'.f_d : Int) == 0) (
   some (0)
  ) (
   gdO (!decide (r'.f_d = 0)) (
   some (wrapF .i64 ((wrapF .i64 ((wrapF .i64 ((wrapF .i64 ((wrapF .i64 (r'.f_b - r'.f_a)) + r'.f_d)) - 1)).tdiv r'.f_d)) + 1))
   )
  )
 )

def fiducial_plan_row_list (n : Nat) (r' : plan_row) (n' : Int) : Option (List Int) :=
 cdO (decide (r'.f_b ≤ r'.f_a)) (
  some ([(mn (mx (wrapF .i64 (n'.tdiv 2)) r'.f_b) r'.f_a)])
 ) (
  bdO (loopO (α := List Int × Int) (β := List Int) n (fun again8 (out_2, x_3) => (
   cdO (decide (x_3 < r'.f_b)) (
    gdO (decide ((out_2.length + 1) * 8 ≤ 140737488355328)) (
    gdO (decide (out_2.length + 1 ≤ 4611686018427387904)) (
    again8 (out_2 ++ [x_3], wrapF .i64 (x_3 + r'.f_d))
    )
    )
   ) (
    some (out_2)
   )
  )) ([], r'.f_a)) fun out_7 => (
   gdO (decide ((out_7.length + 1) * 8 ≤ 140737488355328)) (
   gdO (decide (out_7.length + 1 ≤ 4611686018427387904)) (
   some (out_7 ++ [r'.f_b])
   )
   )
  )
 )

def plan_Make (n : Nat) (s : api_Survey) (height : Int) : Option (api_Flight × Int) :=
 bdO (plan_Check n s) fun v1 => (
 cdO ((v1 : Int) != 0) (
  some ((api_Flight.mk 0 [], v1))
 ) (
  bdO (plan_within n height) fun v5 => (
  cdO (!v5) (
   some ((api_Flight.mk 0 [], 2))
  ) (
   cdO (decide (height ≤ s.High)) (
    some ((api_Flight.mk 0 [], 20))
   ) (
    bdO (plan_newRow n s.Width (wrapF .i64 (s.Along * (wrapF .i64 (height - s.High)))) s.Focal s.Overlap) fun v11 => (
    bdO (plan_newRow n s.Height (wrapF .i64 (s.Across * (wrapF .i64 (height - s.High)))) s.Focal s.Sidelap) fun v13 => (
    bdO (fiducial_plan_row_count n v11) fun v15 => (
    bdO (fiducial_plan_row_count n v13) fun v17 => (
    cdO ((v15 : Int) == 0) (
     some ((api_Flight.mk 0 [], 13))
    ) (
     cdO ((v17 : Int) == 0) (
      some ((api_Flight.mk 0 [], 13))
     ) (
      cdO (decide (v15 > 256)) (
       some ((api_Flight.mk 0 [], 3))
      ) (
       cdO (decide (v17 > 256)) (
        some ((api_Flight.mk 0 [], 3))
       ) (
        cdO (decide ((wrapF .i64 (v15 * v17)) > 256)) (
         some ((api_Flight.mk 0 [], 3))
        ) (
         bdO (fiducial_plan_row_list n v13 s.Height) fun v26 => (
         bdO (loopO (α := List (List api_Pix) × Int) (β := List (List api_Pix)) n (fun again55 (f_28, x_29) => (
          cdO (decide (x_29 < (v26.length : Int))) (
           gdO (inR x_29 v26.length) (
           bdO (fiducial_plan_row_list n v11 s.Width) fun v59 => (
           bdO (loopO (α := List api_Pix × Int) (β := List api_Pix) n (fun again69 (strip_61, x_62) => (
            cdO (decide (x_62 < (v59.length : Int))) (
             gdO (inR x_62 v59.length) (
             gdO (decide ((strip_61.length + 1) * 16 ≤ 140737488355328)) (
             gdO (decide (strip_61.length + 1 ≤ 4611686018427387904)) (
             again69 (strip_61 ++ [api_Pix.mk (gt v59 x_62) (gt v26 x_29)], wrapF .i64 (x_62 + 1))
             )
             )
             )
            ) (
             some (strip_61)
            )
           )) ([], 0)) fun strip_68 => (
            gdO (decide ((f_28.length + 1) * 24 ≤ 140737488355328)) (
            gdO (decide (f_28.length + 1 ≤ 4611686018427387904)) (
            again55 (f_28 ++ [strip_68], wrapF .i64 (x_29 + 1))
            )
            )
           )
           )
           )
          ) (
           some (f_28)
          )
         )) ([], 0)) fun f_54 => (
          some ((api_Flight.mk height f_54, 0))
         )
         )
        )
       )
      )
     )
    )
    )
    )
    )
    )
   )
  )
  )
 )
 )

def slices_Equal_fiducial_api_Pix_fiducial_api_Pix (n : Nat) (s1 : List api_Pix) (s2 : List api_Pix) : Option (Bool) :=
 cdO (((s1.length : Int) : Int) != (s2.length : Int)) (
  some (false)
 ) (
  bdO (loopO (α := Int) (β := Sum (Unit) (Bool)) n (fun again7 x_2 => (
   cdO (decide (x_2 < (s1.length : Int))) (
    gdO (inR x_2 s1.length) (
    gdO (inR x_2 s2.length) (
    cdO (!((((gt s1 x_2).X : Int) == (gt s2 x_2).X) && ((((gt s1 x_2).Y : Int) == (gt s2 x_2).Y) && true))) (
     some (Sum.inr (false))
    ) (
     again7 (wrapF .i64 (x_2 + 1))
    )
    )
    )
   ) (
    some (Sum.inl ())
   )
  )) 0) fun o12 => (
   match o12 with
   | .inl _ => (
    some (true)
   )
   | .inr (r0) => (
    some r0
   ))
 )

def plan_checkFlight (n : Nat) (f : api_Flight) : Option (Int) :=
 bdO (plan_within n f.Height) fun v1 => (
 cdO (!v1) (
  some (2)
 ) (
  bdO (loopO (α := Int × Int) (β := Sum (Int) (Int)) n (fun again36 (n_5, x_6) => (
   cdO (decide (x_6 < (f.Strips.length : Int))) (
    gdO (inR x_6 f.Strips.length) (
    bdO (loopO (α := Int × Int) (β := Sum (Int) (Int)) n (fun again52 (n_40, x_41) => (
     cdO (decide (x_41 < ((gt f.Strips x_6).length : Int))) (
      gdO (inR x_41 (gt f.Strips x_6).length) (
      bdO (plan_within n (gt (gt f.Strips x_6) x_41).X) fun v56 => (
      cdO (!v56) (
       some (Sum.inr (2))
      ) (
       bdO (plan_within n (gt (gt f.Strips x_6) x_41).Y) fun v59 => (
       cdO (!v59) (
        some (Sum.inr (2))
       ) (
        again52 (wrapF .i64 (n_40 + 1), wrapF .i64 (x_41 + 1))
       )
       )
      )
      )
      )
     ) (
      some (Sum.inl n_40)
     )
    )) (n_5, 0)) fun o62 => (
     match o62 with
     | .inl n_51 => (
      again36 (n_51, wrapF .i64 (x_6 + 1))
     )
     | .inr (r0) => (
      some (Sum.inr (r0))
     ))
    )
   ) (
    some (Sum.inl n_5)
   )
  )) (0, 0)) fun o65 => (
   match o65 with
   | .inl n_35 => (
    cdO (decide (n_35 > 256)) (
     some (3)
    ) (
     some (0)
    )
   )
   | .inr (r0) => (
    some r0
   ))
 )
 )

def plan_asked_1 (n : Nat) (l : List api_Pix) : Option (Bool) :=
 some (((l.length : Int) : Int) == 0)

def slices_IndexFunc_fiducial_api_Pix_fiducial_api_Pix_of_plan_asked_1 (n : Nat) (s : List (List api_Pix)) : Option (Int) :=
 bdO (loopO (α := Int) (β := Sum (Unit) (Int)) n (fun again7 x_1 => (
  cdO (decide (x_1 < (s.length : Int))) (
   gdO (inR x_1 s.length) (
   bdO (plan_asked_1 n (gt s x_1)) fun v10 => (
   cdO v10 (
    some (Sum.inr (x_1))
   ) (
    again7 (wrapF .i64 (x_1 + 1))
   )
   )
   )
  ) (
   some (Sum.inl ())
  )
 )) 0) fun o13 => (
  match o13 with
  | .inl _ => (
   some ((-1))
  )
  | .inr (r0) => (
   some r0
  ))

def slices_ContainsFunc_fiducial_api_Pix_fiducial_api_Pix_of_plan_asked_1 (n : Nat) (s : List (List api_Pix)) : Option (Bool) :=
 bdO (slices_IndexFunc_fiducial_api_Pix_fiducial_api_Pix_of_plan_asked_1 n s) fun v1 => (
 some (decide (v1 ≥ 0))
 )

def plan_asked (n : Nat) (s : api_Survey) (f : api_Flight) (ground : Int) (empty : Bool) : Option (Int) :=
 bdO (plan_Check n s) fun v1 => (
 cdO ((v1 : Int) != 0) (
  some (v1)
 ) (
  bdO (plan_checkFlight n f) fun v5 => (
  cdO ((v5 : Int) != 0) (
   some (v5)
  ) (
   bdO (plan_within n ground) fun v9 => (
   cdO (!v9) (
    some (2)
   ) (
    cdO (!empty) (
     cdO (((f.Strips.length : Int) : Int) == 0) (
      some (6)
     ) (
      bdO (slices_ContainsFunc_fiducial_api_Pix_fiducial_api_Pix_of_plan_asked_1 n f.Strips) fun v15 => (
      cdO v15 (
       some (6)
      ) (
       cdO (decide (f.Height ≤ ground)) (
        some (20)
       ) (
        some (0)
       )
      )
      )
     )
    ) (
     cdO (decide (f.Height ≤ ground)) (
      some (20)
     ) (
      some (0)
     )
    )
   )
   )
  )
  )
 )
 )

def slices_Grow_fiducial_api_Pix_fiducial_api_Pix_w (n : Nat) (n' : Int) : Option (List api_Pix) :=
 gdO (!(decide (n' < 0))) (
 cdO (decide ((wrapF .i64 (n' - 0)) > 0)) (
  gdO (decide (0 < (wrapF .i64 (n' - 0)))) (
  gdO (decide ((wrapF .i64 (n' - 0)) ≤ 4611686018427387904)) (
  gdO (decide ((wrapF .i64 (n' - 0)).toNat * 16 ≤ 140737488355328)) (
  gdO (inS 0 0 (List.replicate (wrapF .i64 (n' - 0)).toNat (api_Pix.mk 0 0)).length) (
  some ((List.replicate (wrapF .i64 (n' - 0)).toNat (api_Pix.mk 0 0)).take (0 : Int).toNat)
  )
  )
  )
  )
 ) (
  some ([])
 )
 )

def slices_Concat_fiducial_api_Pix_fiducial_api_Pix (n : Nat) (slices : List (List api_Pix)) : Option (List api_Pix) :=
 bdO (loopO (α := Int × Int) (β := Int) n (fun again7 (size_1, x_2) => (
  cdO (decide (x_2 < (slices.length : Int))) (
   gdO (inR x_2 slices.length) (
   gdO (!(decide ((wrapF .i64 (size_1 + ((gt slices x_2).length : Int))) < 0))) (
   again7 (wrapF .i64 (size_1 + ((gt slices x_2).length : Int)), wrapF .i64 (x_2 + 1))
   )
   )
  ) (
   some (size_1)
  )
 )) (0, 0)) fun size_6 => (
  bdO (slices_Grow_fiducial_api_Pix_fiducial_api_Pix_w n size_6) fun v14 => (
  bdO (loopO (α := List api_Pix × Int) (β := List api_Pix) n (fun again23 (newslice_16, x_17) => (
   cdO (decide (x_17 < (slices.length : Int))) (
    gdO (inR x_17 slices.length) (
    gdO (decide ((newslice_16.length + (gt slices x_17).length) * 16 ≤ 140737488355328)) (
    gdO (decide (newslice_16.length + (gt slices x_17).length ≤ 4611686018427387904)) (
    again23 (newslice_16 ++ (gt slices x_17), wrapF .i64 (x_17 + 1))
    )
    )
    )
   ) (
    some (newslice_16)
   )
  )) (v14, 0)) fun newslice_22 => (
   some (newslice_22)
  )
  )
 )

def cmp_isNaN_int (n : Nat) (x' : Int) : Option (Bool) :=
 some ((x' : Int) != x')

def slices_Sort_int_int_w (n : Nat) (x' : List Int) : Option (List Int) :=
 gdO (decide (x'.length < 4611686018427387904)) (
 some (isrt x')
 )

def slices_Compact_int_int_w (n : Nat) (s : List Int) : Option (List Int) :=
 cdO (decide ((s.length : Int) < 2)) (
  some (s)
 ) (
  bdO (loopO (α := Int) (β := Sum (Unit) (List Int)) n (fun again100 k_69 => (
   cdO (decide (k_69 < (s.length : Int))) (
    gdO (inR k_69 s.length) (
    gdO (inR (wrapF .i64 (k_69 - 1)) s.length) (
    cdO (((gt s k_69) : Int) == (gt s (wrapF .i64 (k_69 - 1)))) (
     gdO (inS k_69 (s.length : Int) s.length) (
     bdO (loopO (α := List Int × Int × Int) (β := List Int × Int) n (fun again118 (s_106, k_107, k2_108) => (
      cdO (decide (k2_108 < ((s.length - k_69.toNat : Nat) : Int))) (
       gdO (inR k2_108 (s.length - k_69.toNat)) (
       gdO (inR ((k_69.toNat + k2_108.toNat : Nat) : Int) s_106.length) (
       gdO (inR (wrapF .i64 (k2_108 - 1)) (s.length - k_69.toNat)) (
       gdO (inR ((k_69.toNat + (wrapF .i64 (k2_108 - 1)).toNat : Nat) : Int) s_106.length) (
       cdO (((gt s_106 ((k_69.toNat + k2_108.toNat : Nat) : Int)) : Int) != (gt s_106 ((k_69.toNat + (wrapF .i64 (k2_108 - 1)).toNat : Nat) : Int))) (
        gdO (inR k_107 s_106.length) (
        again118 (s_106.set k_107.toNat (gt s_106 ((k_69.toNat + k2_108.toNat : Nat) : Int)), wrapF .i64 (k_107 + 1), wrapF .i64 (k2_108 + 1))
        )
       ) (
        again118 (s_106, k_107, wrapF .i64 (k2_108 + 1))
       )
       )
       )
       )
       )
      ) (
       some ((s_106, k_107))
      )
     )) (s, k_69, 1)) fun o126 => (
      match o126 with
      | (s_116, k_117) => (
       gdO (inS k_117 (s_116.length : Int) s_116.length) (
       gdO (inS 0 k_117 s_116.length) (
       some (Sum.inr (((overT s_116 k_117.toNat (List.replicate (s_116.length - k_117.toNat) ((0 : Int) : Int))).take k_117.toNat)))
       )
       )
      ))
     )
    ) (
     again100 (wrapF .i64 (k_69 + 1))
    )
    )
    )
   ) (
    some (Sum.inl ())
   )
  )) 1) fun o131 => (
   match o131 with
   | .inl _ => (
    some (s)
   )
   | .inr (r0) => (
    some r0
   ))
 )

def plan_axis (n : Nat) (n' : Int) (focal : Int) (size : Int) (at' : List Int) : Option (List Int × List (A4 Int)) :=
 bdO (loopO (α := List Int × Int) (β := List Int) n (fun again89 (marks_60, x_61) => (
  cdO (decide (x_61 < (at'.length : Int))) (
   gdO (inR x_61 at'.length) (
   bdO (some [wrapF .i64 ((wrapF .i64 ((gt at' x_61) * (wrapF .i64 (4 * focal)))) - (wrapF .i64 (2 * size))), wrapF .i64 ((wrapF .i64 ((gt at' x_61) * (wrapF .i64 (4 * focal)))) + (wrapF .i64 (2 * size)))]) fun w93 => (
   bdO (loopO (α := List Int × Int) (β := List Int) n (fun again105 (marks_95, x_96) => (
    cdO (decide (x_96 < 2)) (
     gdO (inR x_96 w93.length) (
     cdO (decide ((gt w93 x_96) > 0)) (
      cdO (decide ((gt w93 x_96) < (wrapF .i64 (n' * (wrapF .i64 (4 * focal)))))) (
       gdO (decide ((marks_95.length + 1) * 8 ≤ 140737488355328)) (
       gdO (decide (marks_95.length + 1 ≤ 4611686018427387904)) (
       again105 (marks_95 ++ [(gt w93 x_96)], wrapF .i64 (x_96 + 1))
       )
       )
      ) (
       again105 (marks_95, wrapF .i64 (x_96 + 1))
      )
     ) (
      again105 (marks_95, wrapF .i64 (x_96 + 1))
     )
     )
    ) (
     some (marks_95)
    )
   )) (marks_60, 0)) fun marks_104 => (
    again89 (marks_104, wrapF .i64 (x_61 + 1))
   )
   )
   )
  ) (
   some (marks_60)
  )
 )) ([(0 : Int), wrapF .i64 (n' * (wrapF .i64 (4 * focal)))], 0)) fun marks_88 => (
  bdO (slices_Sort_int_int_w n marks_88) fun v119 => (
  gdO (decide (v119.length = marks_88.length)) (
  bdO (slices_Compact_int_int_w n v119) fun v122 => (
  bdO (loopO (α := List Int × Int) (β := List Int) n (fun again152 (marks_143, x_144) => (
   cdO (decide (x_144 < (wrapF .i64 ((v122.length : Int) - 1)))) (
    gdO (inR x_144 marks_143.length) (
    gdO (inR (wrapF .i64 (x_144 + 1)) marks_143.length) (
    gdO (decide ((marks_143.length + 1) * 8 ≤ 140737488355328)) (
    gdO (decide (marks_143.length + 1 ≤ 4611686018427387904)) (
    again152 (marks_143 ++ [wrapF .i64 ((wrapF .i64 ((gt marks_143 x_144) + (gt marks_143 (wrapF .i64 (x_144 + 1))))).tdiv 2)], wrapF .i64 (x_144 + 1))
    )
    )
    )
    )
   ) (
    some (marks_143)
   )
  )) (v122, 0)) fun marks_151 => (
   bdO (slices_Sort_int_int_w n marks_151) fun v162 => (
   gdO (decide (v162.length = marks_151.length)) (
   gdO (decide (0 ≤ (marks_151.length : Int))) (
   gdO (decide ((32 : Int) * (marks_151.length : Int) ≤ 281474976710656)) (
   gdO (decide ((marks_151.length : Int) ≤ 9223372036854775807)) (
   bdO (loopO (α := List (A4 Int) × Int) (β := List (A4 Int)) n (fun again209 (sets_168, x_169) => (
    cdO (decide (x_169 < (marks_151.length : Int))) (
     gdO (inR x_169 v162.length) (
     bdO (loopO (α := List (A4 Int) × Int) (β := List (A4 Int)) n (fun again230 (sets_213, x_214) => (
      cdO (decide (x_214 < (at'.length : Int))) (
       gdO (inR x_214 at'.length) (
       bdO (some (wrapF .i64 ((gt v162 x_169) - (wrapF .i64 ((gt at' x_214) * (wrapF .i64 (4 * focal))))))) fun w234 => (
       bdO (α := Bool) (
        cdO (decide (w234 ≤ (wrapF .i64 (2 * size)))) (
         some (decide ((wrapF .i64 (0 - w234)) ≤ (wrapF .i64 (2 * size))))
        ) (
         some (false)
        )
       ) fun x_236 => (
        cdO x_236 (
         gdO (inR x_169 sets_213.length) (
         gdO (inR (wrapF .i64 (x_214.tdiv 64)) 4) (
         gdO (decide (0 ≤ (x_214.tmod 64))) (
         again230 (sets_213.set x_169.toNat (A4.put (gt sets_213 x_169) (wrapF .i64 (x_214.tdiv 64)) (bitO .or .u64 (A4.get (gt sets_213 x_169) (wrapF .i64 (x_214.tdiv 64))) (shlF .u64 (1 : Int) (x_214.tmod 64)))), wrapF .i64 (x_214 + 1))
         )
         )
         )
        ) (
         again230 (sets_213, wrapF .i64 (x_214 + 1))
        )
       )
       )
       )
      ) (
       some (sets_213)
      )
     )) (sets_168, 0)) fun sets_229 => (
      again209 (sets_229, wrapF .i64 (x_169 + 1))
     )
     )
    ) (
     some (sets_168)
    )
   )) (List.replicate (marks_151.length : Int).toNat (A4.mk 0 0 0 0 : A4 Int), 0)) fun sets_208 => (
    some ((v162, sets_208))
   )
   )
   )
   )
   )
   )
  )
  )
  )
  )
 )

def math_bits_OnesCount64 (n : Nat) (x' : Int) : Option (Int) :=
 bdO (some (wrapF .u64 ((bitO .and .u64 (x'.fdiv (2 ^ 1)) 6148914691236517205) + (bitO .and .u64 x' 6148914691236517205)))) fun w1 => (
 bdO (some (wrapF .u64 ((bitO .and .u64 (w1.fdiv (2 ^ 2)) 3689348814741910323) + (bitO .and .u64 w1 3689348814741910323)))) fun w3 => (
 bdO (some (bitO .and .u64 (wrapF .u64 ((w3.fdiv (2 ^ 4)) + w3)) 1085102592571150095)) fun w5 => (
 bdO (some (wrapF .u64 ((wrapF .u64 (w5 + (w5.fdiv (2 ^ 8)))) + ((wrapF .u64 (w5 + (w5.fdiv (2 ^ 8)))).fdiv (2 ^ 16))))) fun w7 => (
 some (bitO .and .i64 (wrapF .i64 (wrapF .u64 (w7 + (w7.fdiv (2 ^ 32))))) 127)
 )
 )
 )
 )

def plan_shared (n : Nat) (a : A4 Int) (b : A4 Int) : Option (Int) :=
 bdO (loopO (α := Int × Int) (β := Int) n (fun again9 (n_1, x_2) => (
  cdO (decide (x_2 < 4)) (
   gdO (inR x_2 4) (
   bdO (math_bits_OnesCount64 n (bitO .and .u64 (A4.get a x_2) (A4.get b x_2))) fun v13 => (
   again9 (wrapF .i64 (n_1 + v13), wrapF .i64 (x_2 + 1))
   )
   )
  ) (
   some (n_1)
  )
 )) (0, 0)) fun n_8 => (
  some (n_8)
 )

def integer_split (n : Nat) (n' : Int) : Option (List Int) :=
 bdO (loopO (α := Int × List Int) (β := List Int) n (fun again7 (n_1, g_2) => (
  cdO (decide (n_1 > 0)) (
   gdO (decide ((g_2.length + 1) * 4 ≤ 140737488355328)) (
   gdO (decide (g_2.length + 1 ≤ 4611686018427387904)) (
   again7 (wrapF .u64 (n_1.tdiv 1000000000), g_2 ++ [wrapF .u32 (n_1.tmod 1000000000)])
   )
   )
  ) (
   some (g_2)
  )
 )) (n', [])) fun g_6 => (
  some (g_6)
 )

def integer_trim (n : Nat) (g : List Int) : Option (List Int) :=
 bdO (loopO (α := List Int) (β := List Int) n (fun again7 g_1 => (
  cdO (decide ((g_1.length : Int) > 0)) (
   gdO (inR (wrapF .i64 ((g_1.length : Int) - 1)) g_1.length) (
   cdO (((gt g_1 (wrapF .i64 ((g_1.length : Int) - 1))) : Int) == 0) (
    gdO (inS 0 (wrapF .i64 ((g_1.length : Int) - 1)) g_1.length) (
    again7 ((g_1.drop (0 : Int).toNat).take ((wrapF .i64 ((g_1.length : Int) - 1)).toNat - (0 : Int).toNat))
    )
   ) (
    some (g_1)
   )
   )
  ) (
   some (g_1)
  )
 )) g) fun g_6 => (
  some (g_6)
 )

def integer_made (n : Nat) (negative : Bool) (g : List Int) : Option (api_Int) :=
 bdO (integer_trim n g) fun v1 => (
 cdO (((v1.length : Int) : Int) == 0) (
  some (api_Int.mk false [])
 ) (
  some (api_Int.mk negative v1)
 )
 )

def integer_Of (n : Nat) (n' : Int) : Option (api_Int) :=
 cdO (decide (n' < 0)) (
  bdO (integer_split n (wrapF .u64 (0 - (wrapF .u64 n')))) fun v2 => (
  bdO (integer_made n true v2) fun v4 => (
  some (v4)
  )
  )
 ) (
  bdO (integer_split n (wrapF .u64 n')) fun v6 => (
  bdO (integer_made n false v6) fun v8 => (
  some (v8)
  )
  )
 )

def integer_Valid_1 (n : Nat) (g : Int) : Option (Bool) :=
 some (decide (g ≥ 1000000000))

def slices_IndexFunc_uint32_uint32_of_integer_Valid_1 (n : Nat) (s : List Int) : Option (Int) :=
 bdO (loopO (α := Int) (β := Sum (Unit) (Int)) n (fun again7 x_1 => (
  cdO (decide (x_1 < (s.length : Int))) (
   gdO (inR x_1 s.length) (
   bdO (integer_Valid_1 n (gt s x_1)) fun v10 => (
   cdO v10 (
    some (Sum.inr (x_1))
   ) (
    again7 (wrapF .i64 (x_1 + 1))
   )
   )
   )
  ) (
   some (Sum.inl ())
  )
 )) 0) fun o13 => (
  match o13 with
  | .inl _ => (
   some ((-1))
  )
  | .inr (r0) => (
   some r0
  ))

def slices_ContainsFunc_uint32_uint32_of_integer_Valid_1 (n : Nat) (s : List Int) : Option (Bool) :=
 bdO (slices_IndexFunc_uint32_uint32_of_integer_Valid_1 n s) fun v1 => (
 some (decide (v1 ≥ 0))
 )

def integer_Valid (n : Nat) (x' : api_Int) : Option (Bool) :=
 cdO (((x'.Groups.length : Int) : Int) == 0) (
  some (!x'.Negative)
 ) (
  gdO (inR (wrapF .i64 ((x'.Groups.length : Int) - 1)) x'.Groups.length) (
  cdO (((gt x'.Groups (wrapF .i64 ((x'.Groups.length : Int) - 1))) : Int) != 0) (
   bdO (slices_ContainsFunc_uint32_uint32_of_integer_Valid_1 n x'.Groups) fun v4 => (
   some (!v4)
   )
  ) (
   some (false)
  )
  )
 )

def fraction_counted (n : Nat) (n' : api_Int) : Option (api_Int) :=
 bdO (integer_Valid n n') fun v1 => (
 cdO v1 (
  some (n')
 ) (
  bdO (integer_Of n 0) fun v4 => (
  some (v4)
  )
 )
 )

def integer_groups (n : Nat) (x' : api_Int) : Option (List Int) :=
 bdO (integer_Valid n x') fun v1 => (
 cdO (!v1) (
  some ([])
 ) (
  some (x'.Groups)
 )
 )

def integer_Sign (n : Nat) (x' : api_Int) : Option (Int) :=
 bdO (integer_groups n x') fun v1 => (
 cdO (((v1.length : Int) : Int) == 0) (
  some (0)
 ) (
  cdO x'.Negative (
   some ((-1))
  ) (
   some (1)
  )
 )
 )

def slices_Clone_uint32_uint32 (n : Nat) (s : List Int) : Option (List Int) :=
 gdO (decide ((0 + s.length) * 4 ≤ 140737488355328)) (
 gdO (decide (0 + s.length ≤ 4611686018427387904)) (
 some (s)
 )
 )

def integer_Neg (n : Nat) (x' : api_Int) : Option (api_Int) :=
 bdO (integer_groups n x') fun v1 => (
 bdO (slices_Clone_uint32_uint32 n v1) fun v3 => (
 bdO (integer_made n (!x'.Negative) v3) fun v5 => (
 some (v5)
 )
 )
 )




def integer_trim_w (n : Nat) (g : List Int) : Option (List Int) :=
 bdO (loopO (α := List Int) (β := List Int) n (fun again22 g_16 => (
  cdO (decide ((g_16.length : Int) > 0)) (
   gdO (inR (wrapF .i64 ((g_16.length : Int) - 1)) g_16.length) (
   cdO (((gt g_16 (wrapF .i64 ((g_16.length : Int) - 1))) : Int) == 0) (
    gdO (inS 0 (wrapF .i64 ((g_16.length : Int) - 1)) g_16.length) (
    again22 (g_16.take (wrapF .i64 ((g_16.length : Int) - 1)).toNat)
    )
   ) (
    some (g_16)
   )
   )
  ) (
   some (g_16)
  )
 )) g) fun g_21 => (
  some (g_21)
 )

def integer_times_w (n : Nat) (a : List Int) (b : List Int) : Option (List Int) :=
 gdO (decide (0 ≤ wrapF .i64 ((a.length : Int) + (b.length : Int)))) (
 gdO (decide ((4 : Int) * (wrapF .i64 ((a.length : Int) + (b.length : Int))) ≤ 281474976710656)) (
 gdO (decide (wrapF .i64 ((a.length : Int) + (b.length : Int)) ≤ 9223372036854775807)) (
 bdO (loopO (α := List Int × Int) (β := List Int) n (fun again74 (out_53, x_54) => (
  cdO (decide (x_54 < (a.length : Int))) (
   gdO (inR x_54 a.length) (
   bdO (loopO (α := List Int × Int × Int) (β := List Int × Int) n (fun again85 (out_77, carry_78, x_79) => (
    cdO (decide (x_79 < (b.length : Int))) (
     gdO (inR x_79 b.length) (
     gdO (inR (wrapF .i64 (x_54 + x_79)) out_77.length) (
     again85 (out_77.set (wrapF .i64 (x_54 + x_79)).toNat (wrapF .u32 ((wrapF .u64 ((wrapF .u64 ((wrapF .u64 (gt out_77 (wrapF .i64 (x_54 + x_79)))) + (wrapF .u64 ((wrapF .u64 (gt a x_54)) * (wrapF .u64 (gt b x_79)))))) + carry_78)).tmod 1000000000)), wrapF .u64 ((wrapF .u64 ((wrapF .u64 ((wrapF .u64 (gt out_77 (wrapF .i64 (x_54 + x_79)))) + (wrapF .u64 ((wrapF .u64 (gt a x_54)) * (wrapF .u64 (gt b x_79)))))) + carry_78)).tdiv 1000000000), wrapF .i64 (x_79 + 1))
     )
     )
    ) (
     some ((out_77, carry_78))
    )
   )) (out_53, 0, 0)) fun o89 => (
    match o89 with
    | (out_83, carry_84) => (
     gdO (inR (wrapF .i64 (x_54 + (b.length : Int))) out_83.length) (
     again74 (out_83.set (wrapF .i64 (x_54 + (b.length : Int))).toNat (wrapF .u32 carry_84), wrapF .i64 (x_54 + 1))
     )
    ))
   )
  ) (
   some (out_53)
  )
 )) (List.replicate (wrapF .i64 ((a.length : Int) + (b.length : Int))).toNat ((0 : Int) : Int), 0)) fun out_73 => (
  bdO (integer_trim_w n out_73) fun v96 => (
  some (v96)
  )
 )
 )
 )
 )

def integer_at (n : Nat) (g : List Int) (i : Int) : Option (Int) :=
 cdO (decide (i < (g.length : Int))) (
  gdO (inR i g.length) (
  some ((gt g i))
  )
 ) (
  some (0)
 )

def integer_long (n : Nat) (a : List Int) (b : List Int) : Option (List Int × List Int) :=
 gdO (inR (wrapF .i64 ((b.length : Int) - 1)) b.length) (
 gdO (!decide (wrapF .u64 ((wrapF .u64 (gt b (wrapF .i64 ((b.length : Int) - 1)))) + 1) = 0)) (
 bdO (integer_times_w n a [wrapF .u32 (wrapF .u64 ((1000000000 : Int).tdiv (wrapF .u64 ((wrapF .u64 (gt b (wrapF .i64 ((b.length : Int) - 1)))) + 1))))]) fun v3 => (
 bdO (integer_times_w n b [wrapF .u32 (wrapF .u64 ((1000000000 : Int).tdiv (wrapF .u64 ((wrapF .u64 (gt b (wrapF .i64 ((b.length : Int) - 1)))) + 1))))]) fun v5 => (
 gdO (decide ((v3.length + 1) * 4 ≤ 140737488355328)) (
 gdO (decide (v3.length + 1 ≤ 4611686018427387904)) (
 bdO (α := List Int) (
  cdO (decide (((v3 ++ [(0 : Int)]).length : Int) ≤ (a.length : Int))) (
   gdO (decide (((v3 ++ [(0 : Int)]).length + 1) * 4 ≤ 140737488355328)) (
   gdO (decide ((v3 ++ [(0 : Int)]).length + 1 ≤ 4611686018427387904)) (
   some ((v3 ++ [(0 : Int)]) ++ [(0 : Int)])
   )
   )
  ) (
   some (v3 ++ [(0 : Int)])
  )
 ) fun u_9 => (
  gdO (decide (0 ≤ wrapF .i64 ((u_9.length : Int) - (v5.length : Int)))) (
  gdO (decide ((4 : Int) * (wrapF .i64 ((u_9.length : Int) - (v5.length : Int))) ≤ 281474976710656)) (
  gdO (decide (wrapF .i64 ((u_9.length : Int) - (v5.length : Int)) ≤ 9223372036854775807)) (
  bdO (loopO (α := List Int × List Int × Int) (β := List Int × List Int) n (fun again129 (q_19, u_20, j_21) => (
   cdO (decide (j_21 ≥ 0)) (
    bdO (integer_at n u_20 (wrapF .i64 (j_21 + (v5.length : Int)))) fun v132 => (
    gdO (inR (wrapF .i64 ((wrapF .i64 (j_21 + (v5.length : Int))) - 1)) u_20.length) (
    gdO (inR (wrapF .i64 ((v5.length : Int) - 1)) v5.length) (
    gdO (!decide (wrapF .u64 (gt v5 (wrapF .i64 ((v5.length : Int) - 1))) = 0)) (
    bdO (loopO (α := Int × Int) (β := Int) n (fun again165 (guess_156, rest_157) => (
     cdO (decide (guess_156 ≥ 1000000000)) (
      cdO (decide ((wrapF .u64 (rest_157 + (wrapF .u64 (gt v5 (wrapF .i64 ((v5.length : Int) - 1)))))) ≥ 1000000000)) (
       some (wrapF .u64 (guess_156 - 1))
      ) (
       again165 (wrapF .u64 (guess_156 - 1), wrapF .u64 (rest_157 + (wrapF .u64 (gt v5 (wrapF .i64 ((v5.length : Int) - 1))))))
      )
     ) (
      gdO (inR (wrapF .i64 ((v5.length : Int) - 2)) v5.length) (
      gdO (inR (wrapF .i64 ((wrapF .i64 (j_21 + (v5.length : Int))) - 2)) u_20.length) (
      cdO (decide ((wrapF .u64 (guess_156 * (wrapF .u64 (gt v5 (wrapF .i64 ((v5.length : Int) - 2)))))) > (wrapF .u64 ((wrapF .u64 (rest_157 * 1000000000)) + (wrapF .u64 (gt u_20 (wrapF .i64 ((wrapF .i64 (j_21 + (v5.length : Int))) - 2)))))))) (
       cdO (decide ((wrapF .u64 (rest_157 + (wrapF .u64 (gt v5 (wrapF .i64 ((v5.length : Int) - 1)))))) ≥ 1000000000)) (
        some (wrapF .u64 (guess_156 - 1))
       ) (
        again165 (wrapF .u64 (guess_156 - 1), wrapF .u64 (rest_157 + (wrapF .u64 (gt v5 (wrapF .i64 ((v5.length : Int) - 1))))))
       )
      ) (
       some (guess_156)
      )
      )
      )
     )
    )) (wrapF .u64 ((wrapF .u64 ((wrapF .u64 ((wrapF .u64 v132) * 1000000000)) + (wrapF .u64 (gt u_20 (wrapF .i64 ((wrapF .i64 (j_21 + (v5.length : Int))) - 1)))))).tdiv (wrapF .u64 (gt v5 (wrapF .i64 ((v5.length : Int) - 1))))), (wrapF .u64 ((wrapF .u64 ((wrapF .u64 v132) * 1000000000)) + (wrapF .u64 (gt u_20 (wrapF .i64 ((wrapF .i64 (j_21 + (v5.length : Int))) - 1)))))).tmod (wrapF .u64 (gt v5 (wrapF .i64 ((v5.length : Int) - 1)))))) fun guess_164 => (
     bdO (loopO (α := List Int × Int × Int × Int) (β := List Int × Int × Int) n (fun again205 (u_194, borrow_195, carry_196, x_197) => (
      cdO (decide (x_197 < (v5.length : Int))) (
       gdO (inR x_197 v5.length) (
       gdO (inR (wrapF .i64 (x_197 + j_21)) u_194.length) (
       cdO (decide ((wrapF .i64 ((wrapF .i64 ((wrapF .i64 (gt u_194 (wrapF .i64 (x_197 + j_21)))) - borrow_195)) - (wrapF .i64 ((wrapF .u64 ((wrapF .u64 (guess_164 * (wrapF .u64 (gt v5 x_197)))) + carry_196)).tmod 1000000000)))) < 0)) (
        again205 (u_194.set (wrapF .i64 (x_197 + j_21)).toNat (wrapF .u32 (wrapF .i64 ((wrapF .i64 ((wrapF .i64 ((wrapF .i64 (gt u_194 (wrapF .i64 (x_197 + j_21)))) - borrow_195)) - (wrapF .i64 ((wrapF .u64 ((wrapF .u64 (guess_164 * (wrapF .u64 (gt v5 x_197)))) + carry_196)).tmod 1000000000)))) + 1000000000))), 1, wrapF .u64 ((wrapF .u64 ((wrapF .u64 (guess_164 * (wrapF .u64 (gt v5 x_197)))) + carry_196)).tdiv 1000000000), wrapF .i64 (x_197 + 1))
       ) (
        again205 (u_194.set (wrapF .i64 (x_197 + j_21)).toNat (wrapF .u32 (wrapF .i64 ((wrapF .i64 ((wrapF .i64 (gt u_194 (wrapF .i64 (x_197 + j_21)))) - borrow_195)) - (wrapF .i64 ((wrapF .u64 ((wrapF .u64 (guess_164 * (wrapF .u64 (gt v5 x_197)))) + carry_196)).tmod 1000000000))))), 0, wrapF .u64 ((wrapF .u64 ((wrapF .u64 (guess_164 * (wrapF .u64 (gt v5 x_197)))) + carry_196)).tdiv 1000000000), wrapF .i64 (x_197 + 1))
       )
       )
       )
      ) (
       some ((u_194, borrow_195, carry_196))
      )
     )) (u_20, 0, 0, 0)) fun o210 => (
      match o210 with
      | (u_202, borrow_203, carry_204) => (
       gdO (inR (wrapF .i64 (j_21 + (v5.length : Int))) u_202.length) (
       cdO (decide ((wrapF .i64 ((wrapF .i64 ((wrapF .i64 (gt u_202 (wrapF .i64 (j_21 + (v5.length : Int))))) - borrow_203)) - (wrapF .i64 carry_204))) < 0)) (
        bdO (loopO (α := List Int × Int × Int) (β := List Int × Int) n (fun again224 (u_215, c_216, x_217) => (
         cdO (decide (x_217 < (v5.length : Int))) (
          gdO (inR (wrapF .i64 (x_217 + j_21)) u_215.length) (
          gdO (inR x_217 v5.length) (
          cdO (decide ((wrapF .u32 ((wrapF .u32 ((gt u_215 (wrapF .i64 (x_217 + j_21))) + (gt v5 x_217))) + c_216)) ≥ 1000000000)) (
           again224 (u_215.set (wrapF .i64 (x_217 + j_21)).toNat (wrapF .u32 ((wrapF .u32 ((wrapF .u32 ((gt u_215 (wrapF .i64 (x_217 + j_21))) + (gt v5 x_217))) + c_216)) - 1000000000)), 1, wrapF .i64 (x_217 + 1))
          ) (
           again224 (u_215.set (wrapF .i64 (x_217 + j_21)).toNat (wrapF .u32 ((wrapF .u32 ((gt u_215 (wrapF .i64 (x_217 + j_21))) + (gt v5 x_217))) + c_216)), 0, wrapF .i64 (x_217 + 1))
          )
          )
          )
         ) (
          some ((u_215, c_216))
         )
        )) (u_202.set (wrapF .i64 (j_21 + (v5.length : Int))).toNat (wrapF .u32 (wrapF .i64 ((wrapF .i64 ((wrapF .i64 ((wrapF .i64 (gt u_202 (wrapF .i64 (j_21 + (v5.length : Int))))) - borrow_203)) - (wrapF .i64 carry_204))) + 1000000000))), 0, 0)) fun o229 => (
         match o229 with
         | (u_222, c_223) => (
          gdO (inR (wrapF .i64 (j_21 + (v5.length : Int))) u_222.length) (
          gdO (inR j_21 q_19.length) (
          again129 (q_19.set j_21.toNat (wrapF .u32 (wrapF .u64 (guess_164 - 1))), u_222.set (wrapF .i64 (j_21 + (v5.length : Int))).toNat ((wrapF .u32 ((gt u_222 (wrapF .i64 (j_21 + (v5.length : Int)))) + c_223)).tmod 1000000000), wrapF .i64 (j_21 - 1))
          )
          )
         ))
       ) (
        gdO (inR j_21 q_19.length) (
        again129 (q_19.set j_21.toNat (wrapF .u32 guess_164), u_202.set (wrapF .i64 (j_21 + (v5.length : Int))).toNat (wrapF .u32 (wrapF .i64 ((wrapF .i64 ((wrapF .i64 (gt u_202 (wrapF .i64 (j_21 + (v5.length : Int))))) - borrow_203)) - (wrapF .i64 carry_204)))), wrapF .i64 (j_21 - 1))
        )
       )
       )
      ))
    )
    )
    )
    )
    )
   ) (
    some ((q_19, u_20))
   )
  )) (List.replicate (wrapF .i64 ((u_9.length : Int) - (v5.length : Int))).toNat ((0 : Int) : Int), u_9, wrapF .i64 ((wrapF .i64 ((u_9.length : Int) - (v5.length : Int))) - 1))) fun o235 => (
   match o235 with
   | (q_127, u_128) => (
    gdO (inS 0 (v5.length : Int) u_128.length) (
    bdO (integer_trim n (u_128.take (v5.length : Int).toNat)) fun v239 => (
    bdO (integer_short n v239 (wrapF .u32 (wrapF .u64 ((1000000000 : Int).tdiv (wrapF .u64 ((wrapF .u64 (gt b (wrapF .i64 ((b.length : Int) - 1)))) + 1)))))) fun v241 => (
    bdO (integer_trim n q_127) fun v243 => (
    some ((v243, v241.1))
    )
    )
    )
    )
   ))
  )
  )
  )
 )
 )
 )
 )
 )
 )
 )

def integer_over (n : Nat) (a : List Int) (b : List Int) : Option (List Int × List Int) :=
 bdO (integer_compare n a b) fun v1 => (
 cdO (decide (v1 < 0)) (
  some (([], a))
 ) (
  bdO (integer_word n a) fun v4 => (
  bdO (integer_word n b) fun v6 => (
  cdO v4.2 (
   cdO v6.2 (
    gdO (!decide (v6.1 = 0)) (
    bdO (integer_split n (wrapF .u64 (v4.1.tdiv v6.1))) fun v11 => (
    bdO (integer_split n (v4.1.tmod v6.1)) fun v13 => (
    some ((v11, v13))
    )
    )
    )
   ) (
    cdO (((b.length : Int) : Int) == 1) (
     gdO (inR 0 b.length) (
     bdO (integer_short n a (gt b 0)) fun v17 => (
     bdO (integer_split n (wrapF .u64 v17.2)) fun v19 => (
     some ((v17.1, v19))
     )
     )
     )
    ) (
     bdO (integer_long n a b) fun v21 => (
     some ((v21.1, v21.2))
     )
    )
   )
  ) (
   cdO (((b.length : Int) : Int) == 1) (
    gdO (inR 0 b.length) (
    bdO (integer_short n a (gt b 0)) fun v25 => (
    bdO (integer_split n (wrapF .u64 v25.2)) fun v27 => (
    some ((v25.1, v27))
    )
    )
    )
   ) (
    bdO (integer_long n a b) fun v29 => (
    some ((v29.1, v29.2))
    )
   )
  )
  )
  )
 )
 )

def integer_Gcd (n : Nat) (x' : api_Int) (y : api_Int) : Option (api_Int) :=
 bdO (integer_groups n x') fun v1 => (
 bdO (integer_groups n y) fun v3 => (
 bdO (loopO (α := List Int × List Int) (β := Sum (List Int) (api_Int)) n (fun again34 (a_5, b_6) => (
  cdO (decide ((b_6.length : Int) > 0)) (
   bdO (integer_word n a_5) fun v36 => (
   bdO (integer_word n b_6) fun v38 => (
   cdO v36.2 (
    cdO v38.2 (
     bdO (loopO (α := Int × Int) (β := Int) n (fun again47 (m_42, n_43) => (
      cdO (decide (n_43 > 0)) (
       gdO (!decide (n_43 = 0)) (
       again47 (n_43, m_42.tmod n_43)
       )
      ) (
       some (m_42)
      )
     )) (v36.1, v38.1)) fun m_46 => (
      bdO (integer_split n m_46) fun v53 => (
      bdO (integer_made n false v53) fun v55 => (
      some (Sum.inr (v55))
      )
      )
     )
    ) (
     bdO (integer_over n a_5 b_6) fun v57 => (
     again34 (b_6, v57.2)
     )
    )
   ) (
    bdO (integer_over n a_5 b_6) fun v59 => (
    again34 (b_6, v59.2)
    )
   )
   )
   )
  ) (
   some (Sum.inl a_5)
  )
 )) (v1, v3)) fun o61 => (
  match o61 with
  | .inl a_33 => (
   bdO (slices_Clone_uint32_uint32 n a_33) fun v64 => (
   bdO (integer_made n false v64) fun v66 => (
   some (v66)
   )
   )
  )
  | .inr (r0) => (
   some r0
  ))
 )
 )

def integer_plus (n : Nat) (a : List Int) (b : List Int) : Option (List Int) :=
 gdO (decide (0 ≤ wrapF .i64 ((mx (a.length : Int) (b.length : Int)) + 1))) (
 gdO (decide ((4 : Int) * (wrapF .i64 ((mx (a.length : Int) (b.length : Int)) + 1)) ≤ 281474976710656)) (
 gdO (decide (wrapF .i64 ((mx (a.length : Int) (b.length : Int)) + 1) ≤ 9223372036854775807)) (
 bdO (loopO (α := List Int × Int × Int) (β := List Int) n (fun again16 (out_4, carry_5, x_6) => (
  cdO (decide (x_6 < ((List.replicate (wrapF .i64 ((mx (a.length : Int) (b.length : Int)) + 1)).toNat ((0 : Int) : Int)).length : Int))) (
   bdO (integer_at n a x_6) fun v18 => (
   bdO (integer_at n b x_6) fun v20 => (
   cdO (decide ((wrapF .u32 ((wrapF .u32 (v18 + v20)) + carry_5)) ≥ 1000000000)) (
    gdO (inR x_6 out_4.length) (
    again16 (out_4.set x_6.toNat (wrapF .u32 ((wrapF .u32 ((wrapF .u32 (v18 + v20)) + carry_5)) - 1000000000)), 1, wrapF .i64 (x_6 + 1))
    )
   ) (
    gdO (inR x_6 out_4.length) (
    again16 (out_4.set x_6.toNat (wrapF .u32 ((wrapF .u32 (v18 + v20)) + carry_5)), 0, wrapF .i64 (x_6 + 1))
    )
   )
   )
   )
  ) (
   some (out_4)
  )
 )) (List.replicate (wrapF .i64 ((mx (a.length : Int) (b.length : Int)) + 1)).toNat ((0 : Int) : Int), 0, 0)) fun out_15 => (
  bdO (integer_trim n out_15) fun v28 => (
  some (v28)
  )
 )
 )
 )
 )

def integer_minus (n : Nat) (a : List Int) (b : List Int) : Option (List Int) :=
 gdO (decide (0 ≤ (a.length : Int))) (
 gdO (decide ((4 : Int) * (a.length : Int) ≤ 281474976710656)) (
 gdO (decide ((a.length : Int) ≤ 9223372036854775807)) (
 bdO (loopO (α := List Int × Int × Int) (β := List Int) n (fun again15 (out_4, borrow_5, x_6) => (
  cdO (decide (x_6 < ((List.replicate (a.length : Int).toNat ((0 : Int) : Int)).length : Int))) (
   bdO (integer_at n b x_6) fun v17 => (
   gdO (inR x_6 a.length) (
   cdO (decide ((gt a x_6) < (wrapF .u32 (v17 + borrow_5)))) (
    gdO (inR x_6 out_4.length) (
    again15 (out_4.set x_6.toNat (wrapF .u32 ((wrapF .u32 ((gt a x_6) + 1000000000)) - (wrapF .u32 (v17 + borrow_5)))), 1, wrapF .i64 (x_6 + 1))
    )
   ) (
    gdO (inR x_6 out_4.length) (
    again15 (out_4.set x_6.toNat (wrapF .u32 ((gt a x_6) - (wrapF .u32 (v17 + borrow_5)))), 0, wrapF .i64 (x_6 + 1))
    )
   )
   )
   )
  ) (
   some (out_4)
  )
 )) (List.replicate (a.length : Int).toNat ((0 : Int) : Int), 0, 0)) fun out_14 => (
  bdO (integer_trim n out_14) fun v26 => (
  some (v26)
  )
 )
 )
 )
 )

def integer_Divide (n : Nat) (x' : api_Int) (y : api_Int) : Option (api_Int × api_Int × Int) :=
 bdO (integer_groups n x') fun v1 => (
 bdO (integer_groups n y) fun v3 => (
 cdO (((v3.length : Int) : Int) == 0) (
  some ((api_Int.mk false [], api_Int.mk false [], 14))
 ) (
  bdO (integer_over n v1 v3) fun v6 => (
  bdO (slices_Clone_uint32_uint32 n v6.2) fun v8 => (
  cdO (decide ((v8.length : Int) > 0)) (
   cdO (x'.Negative != y.Negative) (
    bdO (integer_plus n v6.1 [(1 : Int)]) fun v12 => (
    bdO (integer_minus n v3 v8) fun v14 => (
    bdO (integer_made n true v12) fun v16 => (
    bdO (integer_made n y.Negative v14) fun v18 => (
    some ((v16, v18, 0))
    )
    )
    )
    )
   ) (
    bdO (integer_made n false v6.1) fun v20 => (
    bdO (integer_made n y.Negative v8) fun v22 => (
    some ((v20, v22, 0))
    )
    )
   )
  ) (
   bdO (integer_made n (x'.Negative != y.Negative) v6.1) fun v24 => (
   bdO (integer_made n y.Negative v8) fun v26 => (
   some ((v24, v26, 0))
   )
   )
  )
  )
  )
 )
 )
 )

def fraction_reduced (n : Nat) (num : api_Int) (den : api_Int) : Option (api_Rat) :=
 bdO (integer_Sign n den) fun v1 => (
 cdO (decide (v1 < 0)) (
  bdO (integer_Neg n num) fun v4 => (
  bdO (integer_Neg n den) fun v6 => (
  bdO (integer_Gcd n v4 v6) fun v8 => (
  bdO (integer_Divide n v4 v8) fun v10 => (
  bdO (integer_Divide n v6 v8) fun v12 => (
  some (api_Rat.mk v10.1 v12.1)
  )
  )
  )
  )
  )
 ) (
  bdO (integer_Gcd n num den) fun v14 => (
  bdO (integer_Divide n num v14) fun v16 => (
  bdO (integer_Divide n den v14) fun v18 => (
  some (api_Rat.mk v16.1 v18.1)
  )
  )
  )
 )
 )

def fraction_New (n : Nat) (num : api_Int) (den : api_Int) : Option (api_Rat × Int) :=
 bdO (fraction_counted n num) fun v1 => (
 bdO (fraction_counted n den) fun v3 => (
 bdO (integer_Sign n v3) fun v5 => (
 cdO ((v5 : Int) == 0) (
  some ((api_Rat.mk (api_Int.mk false []) (api_Int.mk false []), 14))
 ) (
  bdO (fraction_reduced n v1 v3) fun v8 => (
  some ((v8, 0))
  )
 )
 )
 )
 )

def fraction_Of (n : Nat) (n' : Int) (d : Int) : Option (api_Rat × Int) :=
 bdO (integer_Of n n') fun v1 => (
 bdO (integer_Of n d) fun v3 => (
 bdO (fraction_New n v1 v3) fun v5 => (
 some ((v5.1, v5.2))
 )
 )
 )

def plan_cover (n : Nat) (s : api_Survey) (f : api_Flight) (ground : Int) : Option (Int × api_Place) :=
 bdO (slices_Concat_fiducial_api_Pix_fiducial_api_Pix n f.Strips) fun v1 => (
 bdO (loopO (α := List Int × List Int × Int) (β := List Int × List Int) n (fun again38 (xs_26, ys_27, x_28) => (
  cdO (decide (x_28 < (v1.length : Int))) (
   gdO (inR x_28 v1.length) (
   gdO (decide ((xs_26.length + 1) * 8 ≤ 140737488355328)) (
   gdO (decide (xs_26.length + 1 ≤ 4611686018427387904)) (
   gdO (decide ((ys_27.length + 1) * 8 ≤ 140737488355328)) (
   gdO (decide (ys_27.length + 1 ≤ 4611686018427387904)) (
   again38 (xs_26 ++ [(gt v1 x_28).X], ys_27 ++ [(gt v1 x_28).Y], wrapF .i64 (x_28 + 1))
   )
   )
   )
   )
   )
  ) (
   some ((xs_26, ys_27))
  )
 )) ([], [], 0)) fun o46 => (
  match o46 with
  | (xs_36, ys_37) => (
   bdO (plan_axis n s.Width s.Focal (wrapF .i64 (s.Along * (wrapF .i64 (f.Height - ground)))) xs_36) fun v49 => (
   bdO (plan_axis n s.Height s.Focal (wrapF .i64 (s.Across * (wrapF .i64 (f.Height - ground)))) ys_37) fun v51 => (
   bdO (loopO (α := Int × Int × Int × Int) (β := Int × Int × Int) n (fun again164 (least_126, x_127, y_128, x_129) => (
    cdO (decide (x_129 < (v49.1.length : Int))) (
     bdO (loopO (α := Int × Int × Int × Int) (β := Int × Int × Int) n (fun again183 (least_167, x_168, y_169, x_170) => (
      cdO (decide (x_170 < (v51.1.length : Int))) (
       gdO (inR x_129 v49.2.length) (
       gdO (inR x_170 v51.2.length) (
       bdO (plan_shared n (gt v49.2 x_129) (gt v51.2 x_170)) fun v188 => (
       cdO (decide (v188 < least_167)) (
        gdO (inR x_129 v49.1.length) (
        gdO (inR x_170 v51.1.length) (
        again183 (v188, (gt v49.1 x_129), (gt v51.1 x_170), wrapF .i64 (x_170 + 1))
        )
        )
       ) (
        again183 (least_167, x_168, y_169, wrapF .i64 (x_170 + 1))
       )
       )
       )
       )
      ) (
       some ((least_167, x_168, y_169))
      )
     )) (least_126, x_127, y_128, 0)) fun o193 => (
      match o193 with
      | (least_180, x_181, y_182) => (
       again164 (least_180, x_181, y_182, wrapF .i64 (x_129 + 1))
      ))
    ) (
     some ((least_126, x_127, y_128))
    )
   )) (257, 0, 0, 0)) fun o196 => (
    match o196 with
    | (least_161, x_162, y_163) => (
     bdO (fraction_Of n x_162 (wrapF .i64 (4 * s.Focal))) fun v199 => (
     bdO (fraction_Of n y_163 (wrapF .i64 (4 * s.Focal))) fun v201 => (
     some ((least_161, api_Place.mk v199.1 v201.1))
     )
     )
    ))
   )
   )
  ))
 )

def plan_Cover (n : Nat) (s : api_Survey) (f : api_Flight) (ground : Int) : Option (Int × api_Place × Int) :=
 bdO (plan_asked n s f ground true) fun v1 => (
 cdO ((v1 : Int) != 0) (
  some ((0, api_Place.mk (api_Rat.mk (api_Int.mk false []) (api_Int.mk false [])) (api_Rat.mk (api_Int.mk false []) (api_Int.mk false [])), v1))
 ) (
  bdO (plan_cover n s f ground) fun v5 => (
  some ((v5.1, v5.2, 0))
  )
 )
 )

def plan_Height (n : Nat) (s : api_Survey) (pixel : Int) : Option (Int × Int) :=
 bdO (plan_Check n s) fun v1 => (
 cdO ((v1 : Int) != 0) (
  some ((0, v1))
 ) (
  cdO (decide (pixel < 1)) (
   some ((0, 2))
  ) (
   cdO (decide (pixel > 1048576)) (
    some ((0, 2))
   ) (
    cdO (decide ((wrapF .i64 (s.Low + (wrapF .i64 ((wrapF .i64 (pixel * s.Focal)).tdiv 64)))) ≤ s.High)) (
     some ((0, 15))
    ) (
     cdO (decide ((wrapF .i64 (s.Low + (wrapF .i64 ((wrapF .i64 (pixel * s.Focal)).tdiv 64)))) > 1048576)) (
      some ((0, 3))
     ) (
      some ((wrapF .i64 (s.Low + (wrapF .i64 ((wrapF .i64 (pixel * s.Focal)).tdiv 64))), 0))
     )
    )
   )
  )
 )
 )

def fiducialref01_Valid (n : Nat) (x' : api_Int) : Option (Bool) :=
 bdO (loopO (α := Int) (β := Sum (Unit) (Bool)) n (fun again5 i_1 => (
  cdO (decide (i_1 < (x'.Groups.length : Int))) (
   gdO (inR i_1 x'.Groups.length) (
   cdO (decide ((gt x'.Groups i_1) ≥ 1000000000)) (
    some (Sum.inr (false))
   ) (
    again5 (wrapF .i64 (i_1 + 1))
   )
   )
  ) (
   some (Sum.inl ())
  )
 )) 0) fun o9 => (
  match o9 with
  | .inl _ => (
   cdO (((x'.Groups.length : Int) : Int) == 0) (
    some (!x'.Negative)
   ) (
    gdO (inR (wrapF .i64 ((x'.Groups.length : Int) - 1)) x'.Groups.length) (
    some (((gt x'.Groups (wrapF .i64 ((x'.Groups.length : Int) - 1))) : Int) != 0)
    )
   )
  )
  | .inr (r0) => (
   some r0
  ))

def fiducialref01_Value (n : Nat) (x' : api_Int) : Option (api_Int) :=
 bdO (fiducialref01_Valid n x') fun v1 => (
 cdO (!v1) (
  some (api_Int.mk false [])
 ) (
  gdO (decide ((0 + x'.Groups.length) * 4 ≤ 140737488355328)) (
  gdO (decide (0 + x'.Groups.length ≤ 4611686018427387904)) (
  some (x')
  )
  )
 )
 )

def fiducialref01_Sign (n : Nat) (x' : api_Int) : Option (Int) :=
 bdO (fiducialref01_Value n x') fun v1 => (
 cdO (((v1.Groups.length : Int) : Int) == 0) (
  some (0)
 ) (
  cdO v1.Negative (
   some ((-1))
  ) (
   some (1)
  )
 )
 )

def fiducialref01_made (n : Nat) (negative : Bool) (l : List Int) : Option (api_Int) :=
 bdO (loopO (α := Int) (β := Int) n (fun again6 n_1 => (
  cdO (decide (n_1 > 0)) (
   gdO (inR (wrapF .i64 (n_1 - 1)) l.length) (
   cdO (((gt l (wrapF .i64 (n_1 - 1))) : Int) == 0) (
    again6 (wrapF .i64 (n_1 - 1))
   ) (
    some (n_1)
   )
   )
  ) (
   some (n_1)
  )
 )) (l.length : Int)) fun n_5 => (
  cdO negative (
   gdO (inS 0 n_5 l.length) (
   gdO (decide ((0 + ((l.drop (0 : Int).toNat).take (n_5.toNat - (0 : Int).toNat)).length) * 4 ≤ 140737488355328)) (
   gdO (decide (0 + ((l.drop (0 : Int).toNat).take (n_5.toNat - (0 : Int).toNat)).length ≤ 4611686018427387904)) (
   some (api_Int.mk (decide (n_5 > 0)) ((l.drop (0 : Int).toNat).take (n_5.toNat - (0 : Int).toNat)))
   )
   )
   )
  ) (
   gdO (inS 0 n_5 l.length) (
   gdO (decide ((0 + ((l.drop (0 : Int).toNat).take (n_5.toNat - (0 : Int).toNat)).length) * 4 ≤ 140737488355328)) (
   gdO (decide (0 + ((l.drop (0 : Int).toNat).take (n_5.toNat - (0 : Int).toNat)).length ≤ 4611686018427387904)) (
   some (api_Int.mk false ((l.drop (0 : Int).toNat).take (n_5.toNat - (0 : Int).toNat)))
   )
   )
   )
  )
 )

def fiducialref01_short (n : Nat) (a : List Int) (d : Int) : Option (List Int × Int) :=
 gdO (decide (0 ≤ (a.length : Int))) (
 gdO (decide ((4 : Int) * (a.length : Int) ≤ 281474976710656)) (
 gdO (decide ((a.length : Int) ≤ 9223372036854775807)) (
 bdO (loopO (α := List Int × Int × Int) (β := List Int × Int) n (fun again13 (q_4, rest_5, i_6) => (
  cdO (decide (i_6 ≥ 0)) (
   gdO (inR i_6 a.length) (
   gdO (!decide (d = 0)) (
   gdO (inR i_6 q_4.length) (
   again13 (q_4.set i_6.toNat (wrapF .u32 (wrapF .u64 ((wrapF .u64 ((wrapF .u64 (rest_5 * 1000000000)) + (wrapF .u64 (gt a i_6)))).tdiv d))), (wrapF .u64 ((wrapF .u64 (rest_5 * 1000000000)) + (wrapF .u64 (gt a i_6)))).tmod d, wrapF .i64 (i_6 - 1))
   )
   )
   )
  ) (
   some ((q_4, rest_5))
  )
 )) (List.replicate (a.length : Int).toNat ((0 : Int) : Int), 0, wrapF .i64 ((a.length : Int) - 1))) fun o18 => (
  match o18 with
  | (q_11, rest_12) => (
   bdO (fiducialref01_made n false q_11) fun v21 => (
   some ((v21.Groups, rest_12))
   )
  ))
 )
 )
 )

def fiducialref01_size (n : Nat) (a : List Int) (b : List Int) : Option (Int) :=
 cdO (((a.length : Int) : Int) != (b.length : Int)) (
  cdO (decide ((a.length : Int) < (b.length : Int))) (
   some ((-1))
  ) (
   some (1)
  )
 ) (
  bdO (loopO (α := Int) (β := Sum (Unit) (Int)) n (fun again9 i_3 => (
   cdO (decide (i_3 ≥ 0)) (
    gdO (inR i_3 a.length) (
    gdO (inR i_3 b.length) (
    cdO (decide ((gt a i_3) < (gt b i_3))) (
     some (Sum.inr ((-1)))
    ) (
     cdO (decide ((gt a i_3) > (gt b i_3))) (
      some (Sum.inr (1))
     ) (
      again9 (wrapF .i64 (i_3 - 1))
     )
    )
    )
    )
   ) (
    some (Sum.inl ())
   )
  )) (wrapF .i64 ((a.length : Int) - 1))) fun o15 => (
   match o15 with
   | .inl _ => (
    some (0)
   )
   | .inr (r0) => (
    some r0
   ))
 )

def fiducialref01_scaled (n : Nat) (a : List Int) (d : Int) : Option (List Int) :=
 bdO (loopO (α := List Int × Int × Int) (β := List Int × Int) n (fun again10 (out_1, carry_2, i_3) => (
  cdO (decide (i_3 < (a.length : Int))) (
   gdO (inR i_3 a.length) (
   gdO (decide ((out_1.length + 1) * 4 ≤ 140737488355328)) (
   gdO (decide (out_1.length + 1 ≤ 4611686018427387904)) (
   again10 (out_1 ++ [wrapF .u32 ((wrapF .u64 ((wrapF .u64 ((wrapF .u64 (gt a i_3)) * d)) + carry_2)).tmod 1000000000)], wrapF .u64 ((wrapF .u64 ((wrapF .u64 ((wrapF .u64 (gt a i_3)) * d)) + carry_2)).tdiv 1000000000), wrapF .i64 (i_3 + 1))
   )
   )
   )
  ) (
   some ((out_1, carry_2))
  )
 )) ([], 0, 0)) fun o15 => (
  match o15 with
  | (out_8, carry_9) => (
   gdO (decide ((out_8.length + 1) * 4 ≤ 140737488355328)) (
   gdO (decide (out_8.length + 1 ≤ 4611686018427387904)) (
   bdO (fiducialref01_made n false (out_8 ++ [wrapF .u32 carry_9])) fun v20 => (
   some (v20.Groups)
   )
   )
   )
  ))

def fiducialref01_shifted (n : Nat) (a : List Int) (d : Int) : Option (List Int) :=
 gdO (decide ((1 + a.length) * 4 ≤ 140737488355328)) (
 gdO (decide (1 + a.length ≤ 4611686018427387904)) (
 bdO (fiducialref01_made n false ([d] ++ a)) fun v3 => (
 some (v3.Groups)
 )
 )
 )

def fiducialref01_group (n : Nat) (l : List Int) (i : Int) : Option (Int) :=
 cdO (decide (i < (l.length : Int))) (
  gdO (inR i l.length) (
  some (wrapF .u64 (gt l i))
  )
 ) (
  some (0)
 )

def fiducialref01_minus (n : Nat) (a : List Int) (b : List Int) : Option (List Int) :=
 bdO (loopO (α := List Int × Int × Int) (β := List Int) n (fun again12 (out_1, borrow_2, i_3) => (
  cdO (decide (i_3 < (a.length : Int))) (
   bdO (fiducialref01_group n a i_3) fun v14 => (
   bdO (fiducialref01_group n b i_3) fun v16 => (
   gdO (decide ((out_1.length + 1) * 4 ≤ 140737488355328)) (
   gdO (decide (out_1.length + 1 ≤ 4611686018427387904)) (
   again12 (out_1 ++ [wrapF .u32 ((wrapF .u64 ((wrapF .u64 ((wrapF .u64 (1000000000 + v14)) - v16)) - borrow_2)).tmod 1000000000)], wrapF .u64 (1 - (wrapF .u64 ((wrapF .u64 ((wrapF .u64 ((wrapF .u64 (1000000000 + v14)) - v16)) - borrow_2)).tdiv 1000000000))), wrapF .i64 (i_3 + 1))
   )
   )
   )
   )
  ) (
   some (out_1)
  )
 )) ([], 0, 0)) fun out_11 => (
  bdO (fiducialref01_made n false out_11) fun v23 => (
  some (v23.Groups)
  )
 )

def fiducialref01_parts (n : Nat) (a : List Int) (b : List Int) : Option (List Int × List Int) :=
 cdO (((b.length : Int) : Int) == 1) (
  gdO (inR 0 b.length) (
  bdO (fiducialref01_short n a (wrapF .u64 (gt b 0))) fun v3 => (
  bdO (fiducialref01_made n false [(wrapF .u32 v3.2)]) fun v5 => (
  some ((v3.1, v5.Groups))
  )
  )
  )
 ) (
  bdO (fiducialref01_size n a b) fun v7 => (
  cdO (decide (v7 < 0)) (
   some (([], a))
  ) (
   gdO (inR (wrapF .i64 ((b.length : Int) - 1)) b.length) (
   gdO (!decide (wrapF .u64 ((wrapF .u64 (gt b (wrapF .i64 ((b.length : Int) - 1)))) + 1) = 0)) (
   bdO (fiducialref01_scaled n a (wrapF .u64 ((1000000000 : Int).tdiv (wrapF .u64 ((wrapF .u64 (gt b (wrapF .i64 ((b.length : Int) - 1)))) + 1))))) fun v12 => (
   bdO (fiducialref01_scaled n b (wrapF .u64 ((1000000000 : Int).tdiv (wrapF .u64 ((wrapF .u64 (gt b (wrapF .i64 ((b.length : Int) - 1)))) + 1))))) fun v14 => (
   gdO (inS (wrapF .i64 ((wrapF .i64 ((v12.length : Int) - (b.length : Int))) + 1)) (v12.length : Int) v12.length) (
   bdO (fiducialref01_made n false ((v12.drop (wrapF .i64 ((wrapF .i64 ((v12.length : Int) - (b.length : Int))) + 1)).toNat).take ((v12.length : Int).toNat - (wrapF .i64 ((wrapF .i64 ((v12.length : Int) - (b.length : Int))) + 1)).toNat))) fun v17 => (
   gdO (decide (0 ≤ wrapF .i64 ((wrapF .i64 ((v12.length : Int) - (b.length : Int))) + 1))) (
   gdO (decide ((4 : Int) * (wrapF .i64 ((wrapF .i64 ((v12.length : Int) - (b.length : Int))) + 1)) ≤ 281474976710656)) (
   gdO (decide (wrapF .i64 ((wrapF .i64 ((v12.length : Int) - (b.length : Int))) + 1) ≤ 9223372036854775807)) (
   bdO (loopO (α := List Int × List Int × Int) (β := List Int × List Int) n (fun again60 (rest_22, q_23, i_24) => (
    cdO (decide (i_24 ≥ 0)) (
     gdO (inR i_24 v12.length) (
     bdO (fiducialref01_shifted n rest_22 (gt v12 i_24)) fun v63 => (
     bdO (fiducialref01_group n v63 (b.length : Int)) fun v65 => (
     bdO (fiducialref01_group n v63 (wrapF .i64 ((b.length : Int) - 1))) fun v67 => (
     gdO (inR (wrapF .i64 ((b.length : Int) - 1)) v14.length) (
     gdO (!decide (wrapF .u64 ((wrapF .u64 (gt v14 (wrapF .i64 ((b.length : Int) - 1)))) + 1) = 0)) (
     bdO (fiducialref01_scaled n v14 (wrapF .u64 ((wrapF .u64 ((wrapF .u64 (v65 * 1000000000)) + v67)).tdiv (wrapF .u64 ((wrapF .u64 (gt v14 (wrapF .i64 ((b.length : Int) - 1)))) + 1))))) fun v71 => (
     bdO (fiducialref01_minus n v63 v71) fun v73 => (
     bdO (loopO (α := List Int × Int) (β := List Int × Int) n (fun again84 (rest_75, guess_76) => (
      bdO (fiducialref01_size n rest_75 v14) fun v85 => (
      cdO (decide (v85 ≥ 0)) (
       bdO (fiducialref01_minus n rest_75 v14) fun v88 => (
       again84 (v88, wrapF .u64 (guess_76 + 1))
       )
      ) (
       some ((rest_75, guess_76))
      )
      )
     )) (v73, wrapF .u64 ((wrapF .u64 ((wrapF .u64 (v65 * 1000000000)) + v67)).tdiv (wrapF .u64 ((wrapF .u64 (gt v14 (wrapF .i64 ((b.length : Int) - 1)))) + 1))))) fun o90 => (
      match o90 with
      | (rest_82, guess_83) => (
       gdO (inR i_24 q_23.length) (
       again60 (rest_82, q_23.set i_24.toNat (wrapF .u32 guess_83), wrapF .i64 (i_24 - 1))
       )
      ))
     )
     )
     )
     )
     )
     )
     )
     )
    ) (
     some ((rest_22, q_23))
    )
   )) (v17.Groups, List.replicate (wrapF .i64 ((wrapF .i64 ((v12.length : Int) - (b.length : Int))) + 1)).toNat ((0 : Int) : Int), wrapF .i64 ((v12.length : Int) - (b.length : Int)))) fun o94 => (
    match o94 with
    | (rest_58, q_59) => (
     bdO (fiducialref01_short n rest_58 (wrapF .u64 ((1000000000 : Int).tdiv (wrapF .u64 ((wrapF .u64 (gt b (wrapF .i64 ((b.length : Int) - 1)))) + 1))))) fun v97 => (
     bdO (fiducialref01_made n false q_59) fun v99 => (
     some ((v99.Groups, v97.1))
     )
     )
    ))
   )
   )
   )
   )
   )
   )
   )
   )
   )
  )
  )
 )

def fiducialref01_pair (n : Nat) (a : List Int) : Option (Int) :=
 bdO (fiducialref01_group n a 1) fun v1 => (
 bdO (fiducialref01_group n a 0) fun v3 => (
 some (wrapF .u64 ((wrapF .u64 (v1 * 1000000000)) + v3))
 )
 )

def fiducialref01_Gcd (n : Nat) (x' : api_Int) (y : api_Int) : Option (api_Int) :=
 bdO (fiducialref01_Value n x') fun v1 => (
 bdO (fiducialref01_Value n y) fun v3 => (
 bdO (loopO (α := List Int × List Int) (β := List Int × List Int) n (fun again16 (a_5, b_6) => (
  cdO (decide ((b_6.length : Int) > 0)) (
   cdO (decide ((a_5.length : Int) > 2)) (
    bdO (fiducialref01_parts n a_5 b_6) fun v19 => (
    again16 (b_6, v19.2)
    )
   ) (
    cdO (decide ((b_6.length : Int) > 2)) (
     bdO (fiducialref01_parts n a_5 b_6) fun v22 => (
     again16 (b_6, v22.2)
     )
    ) (
     some ((a_5, b_6))
    )
   )
  ) (
   some ((a_5, b_6))
  )
 )) (v1.Groups, v3.Groups)) fun o24 => (
  match o24 with
  | (a_14, b_15) => (
   cdO (((b_15.length : Int) : Int) == 0) (
    bdO (fiducialref01_made n false a_14) fun v28 => (
    some (v28)
    )
   ) (
    bdO (fiducialref01_pair n a_14) fun v30 => (
    bdO (fiducialref01_pair n b_15) fun v32 => (
    bdO (loopO (α := Int × Int) (β := Int) n (fun again39 (u_34, v_35) => (
     cdO (decide (v_35 > 0)) (
      gdO (!decide (v_35 = 0)) (
      again39 (v_35, u_34.tmod v_35)
      )
     ) (
      some (u_34)
     )
    )) (v30, v32)) fun u_38 => (
     bdO (fiducialref01_made n false [(wrapF .u32 (u_38.tmod 1000000000)), (wrapF .u32 (wrapF .u64 (u_38.tdiv 1000000000)))]) fun v45 => (
     some (v45)
     )
    )
    )
    )
   )
  ))
 )
 )

def fiducialref01_Of (n : Nat) (n' : Int) : Option (api_Int) :=
 cdO (decide (n' < 0)) (
  bdO (loopO (α := Int × List Int) (β := List Int) n (fun again8 (u_2, l_3) => (
   cdO (decide (u_2 > 0)) (
    gdO (decide ((l_3.length + 1) * 4 ≤ 140737488355328)) (
    gdO (decide (l_3.length + 1 ≤ 4611686018427387904)) (
    again8 (wrapF .u64 (u_2.tdiv 1000000000), l_3 ++ [wrapF .u32 (u_2.tmod 1000000000)])
    )
    )
   ) (
    some (l_3)
   )
  )) (wrapF .u64 ((wrapF .u64 (wrapF .i64 (0 - (wrapF .i64 (n' + 1))))) + 1), [])) fun l_7 => (
   bdO (fiducialref01_made n true l_7) fun v15 => (
   some (v15)
   )
  )
 ) (
  bdO (loopO (α := Int × List Int) (β := List Int) n (fun again23 (u_17, l_18) => (
   cdO (decide (u_17 > 0)) (
    gdO (decide ((l_18.length + 1) * 4 ≤ 140737488355328)) (
    gdO (decide (l_18.length + 1 ≤ 4611686018427387904)) (
    again23 (wrapF .u64 (u_17.tdiv 1000000000), l_18 ++ [wrapF .u32 (u_17.tmod 1000000000)])
    )
    )
   ) (
    some (l_18)
   )
  )) (wrapF .u64 n', [])) fun l_22 => (
   bdO (fiducialref01_made n false l_22) fun v30 => (
   some (v30)
   )
  )
 )

def fiducialref02_whole (n : Nat) (n' : Int) : Option (api_Int) :=
 bdO (fiducialref01_Of n n') fun v1 => (
 some (v1)
 )

def fiducialref01_Neg (n : Nat) (x' : api_Int) : Option (api_Int) :=
 bdO (fiducialref01_Value n x') fun v1 => (
 bdO (fiducialref01_made n (!v1.Negative) v1.Groups) fun v3 => (
 some (v3)
 )
 )

def fiducialref01_plus (n : Nat) (a : List Int) (b : List Int) : Option (List Int) :=
 bdO (loopO (α := List Int × Int × Int) (β := List Int × Int) n (fun again20 (out_1, carry_2, i_3) => (
  cdO (decide (i_3 < (a.length : Int))) (
   bdO (fiducialref01_group n a i_3) fun v22 => (
   bdO (fiducialref01_group n b i_3) fun v24 => (
   gdO (decide ((out_1.length + 1) * 4 ≤ 140737488355328)) (
   gdO (decide (out_1.length + 1 ≤ 4611686018427387904)) (
   again20 (out_1 ++ [wrapF .u32 ((wrapF .u64 ((wrapF .u64 (v22 + v24)) + carry_2)).tmod 1000000000)], wrapF .u64 ((wrapF .u64 ((wrapF .u64 (v22 + v24)) + carry_2)).tdiv 1000000000), wrapF .i64 (i_3 + 1))
   )
   )
   )
   )
  ) (
   cdO (decide (i_3 < (b.length : Int))) (
    bdO (fiducialref01_group n a i_3) fun v29 => (
    bdO (fiducialref01_group n b i_3) fun v31 => (
    gdO (decide ((out_1.length + 1) * 4 ≤ 140737488355328)) (
    gdO (decide (out_1.length + 1 ≤ 4611686018427387904)) (
    again20 (out_1 ++ [wrapF .u32 ((wrapF .u64 ((wrapF .u64 (v29 + v31)) + carry_2)).tmod 1000000000)], wrapF .u64 ((wrapF .u64 ((wrapF .u64 (v29 + v31)) + carry_2)).tdiv 1000000000), wrapF .i64 (i_3 + 1))
    )
    )
    )
    )
   ) (
    some ((out_1, carry_2))
   )
  )
 )) ([], 0, 0)) fun o35 => (
  match o35 with
  | (out_18, carry_19) => (
   gdO (decide ((out_18.length + 1) * 4 ≤ 140737488355328)) (
   gdO (decide (out_18.length + 1 ≤ 4611686018427387904)) (
   bdO (fiducialref01_made n false (out_18 ++ [wrapF .u32 carry_19])) fun v40 => (
   some (v40.Groups)
   )
   )
   )
  ))

def fiducialref01_Add (n : Nat) (x' : api_Int) (y : api_Int) : Option (api_Int) :=
 bdO (fiducialref01_Value n x') fun v1 => (
 bdO (fiducialref01_Value n y) fun v3 => (
 cdO (v1.Negative == v3.Negative) (
  bdO (fiducialref01_plus n v1.Groups v3.Groups) fun v6 => (
  bdO (fiducialref01_made n v1.Negative v6) fun v8 => (
  some (v8)
  )
  )
 ) (
  bdO (fiducialref01_size n v1.Groups v3.Groups) fun v10 => (
  cdO (decide (v10 ≥ 0)) (
   bdO (fiducialref01_minus n v1.Groups v3.Groups) fun v13 => (
   bdO (fiducialref01_made n v1.Negative v13) fun v15 => (
   some (v15)
   )
   )
  ) (
   bdO (fiducialref01_minus n v3.Groups v1.Groups) fun v17 => (
   bdO (fiducialref01_made n v3.Negative v17) fun v19 => (
   some (v19)
   )
   )
  )
  )
 )
 )
 )

def fiducialref01_Sub (n : Nat) (x' : api_Int) (y : api_Int) : Option (api_Int) :=
 bdO (fiducialref01_Neg n y) fun v1 => (
 bdO (fiducialref01_Add n x' v1) fun v3 => (
 some (v3)
 )
 )

def fiducialref01_Compare (n : Nat) (x' : api_Int) (y : api_Int) : Option (Int) :=
 bdO (fiducialref01_Sub n x' y) fun v1 => (
 bdO (fiducialref01_Sign n v1) fun v3 => (
 some (v3)
 )
 )

def fiducialref02_Valid (n : Nat) (x' : api_Rat) : Option (Bool) :=
 bdO (fiducialref01_Valid n x'.Num) fun v1 => (
 cdO (!v1) (
  some (false)
 ) (
  bdO (fiducialref01_Valid n x'.Den) fun v4 => (
  cdO (!v4) (
   some (false)
  ) (
   bdO (fiducialref01_Sign n x'.Den) fun v7 => (
   cdO (decide (v7 ≤ 0)) (
    some (false)
   ) (
    bdO (fiducialref01_Gcd n x'.Num x'.Den) fun v10 => (
    bdO (fiducialref02_whole n 1) fun v12 => (
    bdO (fiducialref01_Compare n v10 v12) fun v14 => (
    some ((v14 : Int) == 0)
    )
    )
    )
   )
   )
  )
  )
 )
 )

def fiducialref02_Whole (n : Nat) (n' : Int) : Option (api_Rat) :=
 bdO (fiducialref02_whole n n') fun v1 => (
 bdO (fiducialref02_whole n 1) fun v3 => (
 some (api_Rat.mk v1 v3)
 )
 )

def fiducialref02_Value (n : Nat) (x' : api_Rat) : Option (api_Rat) :=
 bdO (fiducialref02_Valid n x') fun v1 => (
 cdO v1 (
  some (x')
 ) (
  bdO (fiducialref02_Whole n 0) fun v4 => (
  some (v4)
  )
 )
 )

def fiducialref02_Sign (n : Nat) (x' : api_Rat) : Option (Int) :=
 bdO (fiducialref02_Value n x') fun v1 => (
 bdO (fiducialref01_Sign n v1.Num) fun v3 => (
 some (v3)
 )
 )

def plan_Verify (n : Nat) (s : api_Survey) (f : api_Flight) : Option (Int) :=
 bdO (plan_asked n s f s.High true) fun v1 => (
 cdO ((v1 : Int) != 0) (
  some (v1)
 ) (
  bdO (plan_cover n s f s.High) fun v5 => (
  cdO (decide (v5.1 < s.Views)) (
   some (12)
  ) (
   some (0)
  )
  )
 )
 )

def fiduciallaw55_known (n : Nat) : Option (Bool) :=
 bdO (fiduciallaw55_example n) fun v1 => (
 bdO (plan_Make n v1 40) fun v3 => (
 cdO ((v3.2 : Int) != 0) (
  some (false)
 ) (
  cdO (((v3.1.Strips.length : Int) : Int) != 2) (
   some (false)
  ) (
   gdO (inR 1 v3.1.Strips.length) (
   bdO (slices_Equal_fiducial_api_Pix_fiducial_api_Pix n (gt v3.1.Strips 1) [api_Pix.mk 20 18, api_Pix.mk 36 18, api_Pix.mk 52 18, api_Pix.mk 68 18, api_Pix.mk 80 18]) fun v8 => (
   cdO (!v8) (
    some (false)
   ) (
    bdO (fiduciallaw55_example n) fun v12 => (
    bdO (plan_Cover n v12 v3.1 0) fun v14 => (
    bdO (fiduciallaw55_example n) fun v16 => (
    bdO (plan_Height n v16 2) fun v18 => (
    cdO ((v14.2.2 : Int) == 0) (
     cdO ((v18.2 : Int) == 0) (
      cdO ((v14.1 : Int) == 1) (
       cdO ((v18.1 : Int) == 2) (
        bdO (fiducialref02_Sign n v14.2.1.X) fun v24 => (
        cdO ((v24 : Int) == 0) (
         bdO (fiducialref02_Valid n v14.2.1.X) fun v27 => (
         cdO v27 (
          bdO (fiduciallaw55_example n) fun v30 => (
          bdO (plan_Verify n v30 v3.1) fun v32 => (
          some ((v32 : Int) == 0)
          )
          )
         ) (
          some (false)
         )
         )
        ) (
         some (false)
        )
        )
       ) (
        some (false)
       )
      ) (
       some (false)
      )
     ) (
      some (false)
     )
    ) (
     some (false)
    )
    )
    )
    )
    )
   )
   )
   )
  )
 )
 )
 )

def fiduciallaw55_positions (n : Nat) (f : api_Flight) : Option (List api_Pix) :=
 bdO (loopO (α := List api_Pix × Int) (β := List api_Pix) n (fun again8 (l_1, x_2) => (
  cdO (decide (x_2 < (f.Strips.length : Int))) (
   gdO (inR x_2 f.Strips.length) (
   gdO (decide ((l_1.length + (gt f.Strips x_2).length) * 16 ≤ 140737488355328)) (
   gdO (decide (l_1.length + (gt f.Strips x_2).length ≤ 4611686018427387904)) (
   again8 (l_1 ++ (gt f.Strips x_2), wrapF .i64 (x_2 + 1))
   )
   )
   )
  ) (
   some (l_1)
  )
 )) ([], 0)) fun l_7 => (
  some (l_7)
 )

def fiduciallaw55_few (n : Nat) (f : api_Flight) (most : Int) : Option (Bool) :=
 cdO (decide ((f.Strips.length : Int) ≤ 20)) (
  bdO (fiduciallaw55_positions n f) fun v2 => (
  some (decide ((v2.length : Int) ≤ most))
  )
 ) (
  some (false)
 )

def plan_Control_1_1 (n : Nat) (m' : Int) (p : Int) : Option (Bool) :=
 some (((bitO .and .i64 m' p) : Int) == 0)

def slices_IndexFunc_int_int_of_plan_Control_1_1 (n : Nat) (s : List Int) (c : Int) : Option (Int) :=
 bdO (loopO (α := Int) (β := Sum (Unit) (Int)) n (fun again7 x_1 => (
  cdO (decide (x_1 < (s.length : Int))) (
   gdO (inR x_1 s.length) (
   bdO (plan_Control_1_1 n (gt s x_1) c) fun v10 => (
   cdO v10 (
    some (Sum.inr (x_1))
   ) (
    again7 (wrapF .i64 (x_1 + 1))
   )
   )
   )
  ) (
   some (Sum.inl ())
  )
 )) 0) fun o13 => (
  match o13 with
  | .inl _ => (
   some ((-1))
  )
  | .inr (r0) => (
   some r0
  ))

def slices_ContainsFunc_int_int_of_plan_Control_1_1 (n : Nat) (s : List Int) (c : Int) : Option (Bool) :=
 bdO (slices_IndexFunc_int_int_of_plan_Control_1_1 n s c) fun v1 => (
 some (decide (v1 ≥ 0))
 )

def plan_choose (n : Nat) (sees : List Int) (k : Int) : Nat → List Int → Int → Int → Int → Option (Option (List Int))
 | 0, _, _, _, _ => none
 | d + 1, l, mask, start, left =>
  gdO (decide (l.length ≤ 1000000)) (
  cdO ((left : Int) == 0) (
   bdO (slices_ContainsFunc_int_int_of_plan_Control_1_1 n sees mask) fun b => (
   cdO b (some none) (some (some l))
   )
  ) (
   loopO (α := Int) (β := Option (List Int)) n (fun again i => (
    cdO (decide ((wrapF .i64 (i + left)) ≤ k)) (
     gdO (decide (0 ≤ i)) (
     bdO (plan_choose n sees k d (l ++ [i]) (bitO .or .i64 mask (shlF .i64 (1 : Int) i)) (wrapF .i64 (i + 1)) (wrapF .i64 (left - 1))) fun r => (
     cdO r.isNone (again (wrapF .i64 (i + 1))) (some r)
     )
     )
    ) (
     some none
    )
   )) start
  )
  )

def plan_Control (n : Nat) (s : api_Survey) (f : api_Flight) (candidates : List api_Pix) : Option (List Int × Int) :=
 bdO (plan_asked n s f s.High true) fun v1 => (
 cdO ((v1 : Int) != 0) (
  some (([], v1))
 ) (
  bdO (loopO (α := Int) (β := Sum (Unit) (List Int × Int)) n (fun again38 x_28 => (
   cdO (decide (x_28 < (candidates.length : Int))) (
    gdO (inR x_28 candidates.length) (
    bdO (plan_within n (gt candidates x_28).X) fun v42 => (
    cdO (!v42) (
     some (Sum.inr (([], 2)))
    ) (
     bdO (plan_within n (gt candidates x_28).Y) fun v45 => (
     cdO (!v45) (
      some (Sum.inr (([], 2)))
     ) (
      again38 (wrapF .i64 (x_28 + 1))
     )
     )
    )
    )
    )
   ) (
    some (Sum.inl ())
   )
  )) 0) fun o48 => (
   match o48 with
   | .inl _ => (
    cdO (decide ((candidates.length : Int) > 16)) (
     some (([], 3))
    ) (
     bdO (slices_Concat_fiducial_api_Pix_fiducial_api_Pix n f.Strips) fun v53 => (
     bdO (loopO (α := List Int × Int) (β := List Int) n (fun again137 (sees_110, x_111) => (
      cdO (decide (x_111 < (v53.length : Int))) (
       gdO (inR x_111 v53.length) (
       bdO (loopO (α := Int × Int) (β := Int) n (fun again150 (mask_141, x_142) => (
        cdO (decide (x_142 < (candidates.length : Int))) (
         gdO (inR x_142 candidates.length) (
         cdO (decide ((wrapF .i64 ((wrapF .i64 ((mx (wrapF .i64 ((gt candidates x_142).X - (gt v53 x_111).X)) (wrapF .i64 (0 - (wrapF .i64 ((gt candidates x_142).X - (gt v53 x_111).X))))) * 2)) * s.Focal)) ≤ (wrapF .i64 (s.Along * (wrapF .i64 (f.Height - s.High)))))) (
          cdO (decide ((wrapF .i64 ((wrapF .i64 ((mx (wrapF .i64 ((gt candidates x_142).Y - (gt v53 x_111).Y)) (wrapF .i64 (0 - (wrapF .i64 ((gt candidates x_142).Y - (gt v53 x_111).Y))))) * 2)) * s.Focal)) ≤ (wrapF .i64 (s.Across * (wrapF .i64 (f.Height - s.High)))))) (
           gdO (decide (0 ≤ x_142)) (
           again150 (bitO .or .i64 mask_141 (shlF .i64 (1 : Int) x_142), wrapF .i64 (x_142 + 1))
           )
          ) (
           again150 (mask_141, wrapF .i64 (x_142 + 1))
          )
         ) (
          again150 (mask_141, wrapF .i64 (x_142 + 1))
         )
         )
        ) (
         some (mask_141)
        )
       )) (0, 0)) fun mask_149 => (
        gdO (decide ((sees_110.length + 1) * 8 ≤ 140737488355328)) (
        gdO (decide (sees_110.length + 1 ≤ 4611686018427387904)) (
        again137 (sees_110 ++ [mask_149], wrapF .i64 (x_111 + 1))
        )
        )
       )
       )
      ) (
       some (sees_110)
      )
     )) ([], 0)) fun sees_136 => (
      bdO (loopO (α := Int) (β := Sum (Unit) (List Int × Int)) n (fun again171 x_165 => (
       cdO (decide (x_165 < (wrapF .i64 ((candidates.length : Int) + 1)))) (
        bdO (plan_choose n sees_136 (candidates.length : Int) n [] 0 0 x_165) fun v174 => (
        cdO v174.isNone (
         again171 (wrapF .i64 (x_165 + 1))
        ) (
         some (Sum.inr ((v174.getD [], 0)))
        )
        )
       ) (
        some (Sum.inl ())
       )
      )) 0) fun o177 => (
       match o177 with
       | .inl _ => (
        some (([], 6))
       )
       | .inr (r0) => (
        some r0
       ))
     )
     )
    )
   )
   | .inr (r0) => (
    some r0
   ))
 )
 )

def fiduciallaw55_out (n : Nat) (l : List Int) : Option (Bool) :=
 bdO (loopO (α := Int) (β := Sum (Unit) (Bool)) n (fun again7 x_1 => (
  cdO (decide (x_1 < (l.length : Int))) (
   gdO (inR x_1 l.length) (
   cdO (decide ((gt l x_1) < (-1048576))) (
    some (Sum.inr (true))
   ) (
    cdO (decide ((gt l x_1) > 1048576)) (
     some (Sum.inr (true))
    ) (
     again7 (wrapF .i64 (x_1 + 1))
    )
   )
   )
  ) (
   some (Sum.inl ())
  )
 )) 0) fun o13 => (
  match o13 with
  | .inl _ => (
   some (false)
  )
  | .inr (r0) => (
   some r0
  ))

def fiduciallaw55_check (n : Nat) (s : api_Survey) : Option (Int) :=
 cdO (decide (s.Width < 1)) (
  some (2)
 ) (
  cdO (decide (s.Height < 1)) (
   some (2)
  ) (
   bdO (fiduciallaw55_out n [s.Width, s.Height, s.Low, s.High, s.Across, s.Along]) fun v3 => (
   cdO v3 (
    some (2)
   ) (
    cdO (decide (s.Across < 1)) (
     some (2)
    ) (
     cdO (decide (s.Along < 1)) (
      some (2)
     ) (
      cdO (decide (s.Focal < 1)) (
       some (2)
      ) (
       cdO (decide (s.Focal > 1048576)) (
        some (2)
       ) (
        cdO (decide (s.Overlap < 0)) (
         some (2)
        ) (
         cdO (decide (s.Overlap > 95)) (
          some (2)
         ) (
          cdO (decide (s.Sidelap < 0)) (
           some (2)
          ) (
           cdO (decide (s.Sidelap > 95)) (
            some (2)
           ) (
            cdO (decide (s.Views < 1)) (
             some (2)
            ) (
             cdO (decide (s.Views > 16)) (
              some (2)
             ) (
              cdO (decide (s.Low > s.High)) (
               some (5)
              ) (
               some (0)
              )
             )
            )
           )
          )
         )
        )
       )
      )
     )
    )
   )
   )
  )
 )

def fiduciallaw55_flight (n : Nat) (f : api_Flight) : Option (Int) :=
 bdO (fiduciallaw55_out n [f.Height]) fun v1 => (
 bdO (loopO (α := Int × Bool × Int) (β := Int × Bool) n (fun again32 (n_3, bad_4, x_5) => (
  cdO (decide (x_5 < (f.Strips.length : Int))) (
   gdO (inR x_5 f.Strips.length) (
   bdO (loopO (α := Int × Bool × Int) (β := Int × Bool) n (fun again47 (n_36, bad_37, x_38) => (
    cdO (decide (x_38 < ((gt f.Strips x_5).length : Int))) (
     gdO (inR x_38 (gt f.Strips x_5).length) (
     cdO bad_37 (
      again47 (wrapF .i64 (n_36 + 1), true, wrapF .i64 (x_38 + 1))
     ) (
      bdO (fiduciallaw55_out n [(gt (gt f.Strips x_5) x_38).X, (gt (gt f.Strips x_5) x_38).Y]) fun v52 => (
      again47 (wrapF .i64 (n_36 + 1), v52, wrapF .i64 (x_38 + 1))
      )
     )
     )
    ) (
     some ((n_36, bad_37))
    )
   )) (n_3, bad_4, 0)) fun o54 => (
    match o54 with
    | (n_45, bad_46) => (
     again32 (n_45, bad_46, wrapF .i64 (x_5 + 1))
    ))
   )
  ) (
   some ((n_3, bad_4))
  )
 )) (0, v1, 0)) fun o57 => (
  match o57 with
  | (n_30, bad_31) => (
   cdO bad_31 (
    some (2)
   ) (
    cdO (decide (n_30 > 256)) (
     some (3)
    ) (
     some (0)
    )
   )
  ))
 )

def fiduciallaw55_asked (n : Nat) (s : api_Survey) (f : api_Flight) (ground : Int) : Option (Int) :=
 bdO (fiduciallaw55_check n s) fun v1 => (
 cdO ((v1 : Int) != 0) (
  some (v1)
 ) (
  bdO (fiduciallaw55_flight n f) fun v5 => (
  cdO ((v5 : Int) != 0) (
   some (v5)
  ) (
   bdO (fiduciallaw55_out n [ground]) fun v9 => (
   cdO v9 (
    some (2)
   ) (
    cdO (decide (f.Height ≤ ground)) (
     some (20)
    ) (
     some (0)
    )
   )
   )
  )
  )
 )
 )

def fiduciallaw55_PlanControls_1 (n : Nat) (p : api_Pix) : Option (Bool) :=
 bdO (fiduciallaw55_out n [p.X, p.Y]) fun v1 => (
 some (v1)
 )

def slices_IndexFunc_fiducial_api_Pix_fiducial_api_Pix_of_fiduciallaw55_PlanControls_1 (n : Nat) (s : List api_Pix) : Option (Int) :=
 bdO (loopO (α := Int) (β := Sum (Unit) (Int)) n (fun again7 x_1 => (
  cdO (decide (x_1 < (s.length : Int))) (
   gdO (inR x_1 s.length) (
   bdO (fiduciallaw55_PlanControls_1 n (gt s x_1)) fun v10 => (
   cdO v10 (
    some (Sum.inr (x_1))
   ) (
    again7 (wrapF .i64 (x_1 + 1))
   )
   )
   )
  ) (
   some (Sum.inl ())
  )
 )) 0) fun o13 => (
  match o13 with
  | .inl _ => (
   some ((-1))
  )
  | .inr (r0) => (
   some r0
  ))

def slices_ContainsFunc_fiducial_api_Pix_fiducial_api_Pix_of_fiduciallaw55_PlanControls_1 (n : Nat) (s : List api_Pix) : Option (Bool) :=
 bdO (slices_IndexFunc_fiducial_api_Pix_fiducial_api_Pix_of_fiduciallaw55_PlanControls_1 n s) fun v1 => (
 some (decide (v1 ≥ 0))
 )

def cmp_Compare_int (n : Nat) (x' : Int) (y : Int) : Option (Int) :=
 bdO (cmp_isNaN_int n x') fun v1 => (
 bdO (cmp_isNaN_int n y) fun v3 => (
 cdO v1 (
  cdO v3 (
   some (0)
  ) (
   some ((-1))
  )
 ) (
  cdO v3 (
   some (1)
  ) (
   cdO (decide (x' < y)) (
    some ((-1))
   ) (
    cdO (decide (x' > y)) (
     some (1)
    ) (
     some (0)
    )
   )
  )
 )
 )
 )

def slices_Compare_int_int (n : Nat) (s1 : List Int) (s2 : List Int) : Option (Int) :=
 bdO (loopO (α := Int) (β := Sum (Unit) (Int)) n (fun again9 x_1 => (
  cdO (decide (x_1 < (s1.length : Int))) (
   gdO (inR x_1 s1.length) (
   cdO (decide (x_1 ≥ (s2.length : Int))) (
    some (Sum.inr (1))
   ) (
    gdO (inR x_1 s2.length) (
    bdO (cmp_Compare_int n (gt s1 x_1) (gt s2 x_1)) fun v14 => (
    cdO ((v14 : Int) != 0) (
     some (Sum.inr (v14))
    ) (
     again9 (wrapF .i64 (x_1 + 1))
    )
    )
    )
   )
   )
  ) (
   some (Sum.inl ())
  )
 )) 0) fun o17 => (
  match o17 with
  | .inl _ => (
   cdO (decide ((s1.length : Int) < (s2.length : Int))) (
    some ((-1))
   ) (
    some (0)
   )
  )
  | .inr (r0) => (
   some r0
  ))

def fiducialref01_Mul (n : Nat) (x' : api_Int) (y : api_Int) : Option (api_Int) :=
 bdO (fiducialref01_Value n x') fun v1 => (
 bdO (fiducialref01_Value n y) fun v3 => (
 gdO (decide (0 ≤ wrapF .i64 ((v1.Groups.length : Int) + (v3.Groups.length : Int)))) (
 gdO (decide ((4 : Int) * (wrapF .i64 ((v1.Groups.length : Int) + (v3.Groups.length : Int))) ≤ 281474976710656)) (
 gdO (decide (wrapF .i64 ((v1.Groups.length : Int) + (v3.Groups.length : Int)) ≤ 9223372036854775807)) (
 bdO (loopO (α := List Int × Int) (β := List Int) n (fun again30 (out_8, i_9) => (
  cdO (decide (i_9 < (v1.Groups.length : Int))) (
   bdO (loopO (α := List Int × Int × Int) (β := List Int × Int) n (fun again41 (out_32, carry_33, j_34) => (
    cdO (decide (j_34 < (v3.Groups.length : Int))) (
     gdO (inR (wrapF .i64 (i_9 + j_34)) out_32.length) (
     gdO (inR i_9 v1.Groups.length) (
     gdO (inR j_34 v3.Groups.length) (
     again41 (out_32.set (wrapF .i64 (i_9 + j_34)).toNat (wrapF .u32 ((wrapF .u64 ((wrapF .u64 ((wrapF .u64 (gt out_32 (wrapF .i64 (i_9 + j_34)))) + (wrapF .u64 ((wrapF .u64 (gt v1.Groups i_9)) * (wrapF .u64 (gt v3.Groups j_34)))))) + carry_33)).tmod 1000000000)), wrapF .u64 ((wrapF .u64 ((wrapF .u64 ((wrapF .u64 (gt out_32 (wrapF .i64 (i_9 + j_34)))) + (wrapF .u64 ((wrapF .u64 (gt v1.Groups i_9)) * (wrapF .u64 (gt v3.Groups j_34)))))) + carry_33)).tdiv 1000000000), wrapF .i64 (j_34 + 1))
     )
     )
     )
    ) (
     some ((out_32, carry_33))
    )
   )) (out_8, 0, 0)) fun o46 => (
    match o46 with
    | (out_39, carry_40) => (
     gdO (inR (wrapF .i64 (i_9 + (v3.Groups.length : Int))) out_39.length) (
     again30 (out_39.set (wrapF .i64 (i_9 + (v3.Groups.length : Int))).toNat (wrapF .u32 carry_40), wrapF .i64 (i_9 + 1))
     )
    ))
  ) (
   some (out_8)
  )
 )) (List.replicate (wrapF .i64 ((v1.Groups.length : Int) + (v3.Groups.length : Int))).toNat ((0 : Int) : Int), 0)) fun out_29 => (
  bdO (fiducialref01_made n (v1.Negative != v3.Negative) out_29) fun v53 => (
  some (v53)
  )
 )
 )
 )
 )
 )
 )

def fiducialref01_Divide (n : Nat) (x' : api_Int) (y : api_Int) : Option (api_Int × api_Int × Int) :=
 bdO (fiducialref01_Value n x') fun v1 => (
 bdO (fiducialref01_Value n y) fun v3 => (
 cdO (((v3.Groups.length : Int) : Int) == 0) (
  some ((api_Int.mk false [], api_Int.mk false [], 14))
 ) (
  bdO (fiducialref01_parts n v1.Groups v3.Groups) fun v6 => (
  bdO (fiducialref01_made n (v1.Negative != v3.Negative) v6.1) fun v8 => (
  cdO (v1.Negative != v3.Negative) (
   cdO (decide ((v6.2.length : Int) > 0)) (
    bdO (fiducialref01_Of n 1) fun v12 => (
    bdO (fiducialref01_Sub n v8 v12) fun v14 => (
    bdO (fiducialref01_Mul n v14 v3) fun v16 => (
    bdO (fiducialref01_Sub n v1 v16) fun v18 => (
    some ((v14, v18, 0))
    )
    )
    )
    )
   ) (
    bdO (fiducialref01_Mul n v8 v3) fun v20 => (
    bdO (fiducialref01_Sub n v1 v20) fun v22 => (
    some ((v8, v22, 0))
    )
    )
   )
  ) (
   bdO (fiducialref01_Mul n v8 v3) fun v24 => (
   bdO (fiducialref01_Sub n v1 v24) fun v26 => (
   some ((v8, v26, 0))
   )
   )
  )
  )
  )
 )
 )
 )

def fiducialref02_reduced (n : Nat) (num : api_Int) (den : api_Int) : Option (api_Rat) :=
 bdO (fiducialref01_Gcd n num den) fun v1 => (
 bdO (fiducialref01_Sign n den) fun v3 => (
 cdO (decide (v3 < 0)) (
  bdO (fiducialref01_Neg n v1) fun v6 => (
  bdO (fiducialref01_Divide n num v6) fun v8 => (
  bdO (fiducialref01_Divide n den v6) fun v10 => (
  some (api_Rat.mk v8.1 v10.1)
  )
  )
  )
 ) (
  bdO (fiducialref01_Divide n num v1) fun v12 => (
  bdO (fiducialref01_Divide n den v1) fun v14 => (
  some (api_Rat.mk v12.1 v14.1)
  )
  )
 )
 )
 )

def fiducialref02_New (n : Nat) (num : api_Int) (den : api_Int) : Option (api_Rat × Int) :=
 bdO (fiducialref01_Sign n den) fun v1 => (
 cdO ((v1 : Int) == 0) (
  some ((api_Rat.mk (api_Int.mk false []) (api_Int.mk false []), 14))
 ) (
  bdO (fiducialref02_reduced n num den) fun v4 => (
  some ((v4, 0))
  )
 )
 )

def fiducialref02_Of (n : Nat) (n' : Int) (d : Int) : Option (api_Rat × Int) :=
 bdO (fiducialref02_whole n n') fun v1 => (
 bdO (fiducialref02_whole n d) fun v3 => (
 bdO (fiducialref02_New n v1 v3) fun v5 => (
 some ((v5.1, v5.2))
 )
 )
 )

def fiduciallaw55_size (n : Nat) (s : api_Survey) (height : Int) (ground : Int) : Option (api_Rat × api_Rat) :=
 bdO (fiducialref02_Of n (wrapF .i64 (s.Along * (wrapF .i64 (height - ground)))) s.Focal) fun v1 => (
 bdO (fiducialref02_Of n (wrapF .i64 (s.Across * (wrapF .i64 (height - ground)))) s.Focal) fun v3 => (
 some ((v1.1, v3.1))
 )
 )

def fiducialref02_Neg (n : Nat) (x' : api_Rat) : Option (api_Rat) :=
 bdO (fiducialref02_Value n x') fun v1 => (
 bdO (fiducialref01_Neg n v1.Num) fun v3 => (
 some (api_Rat.mk v3 v1.Den)
 )
 )

def fiducialref02_Add (n : Nat) (x' : api_Rat) (y : api_Rat) : Option (api_Rat) :=
 bdO (fiducialref02_Value n x') fun v1 => (
 bdO (fiducialref02_Value n y) fun v3 => (
 bdO (fiducialref01_Mul n v1.Num v3.Den) fun v5 => (
 bdO (fiducialref01_Mul n v3.Num v1.Den) fun v7 => (
 bdO (fiducialref01_Add n v5 v7) fun v9 => (
 bdO (fiducialref01_Mul n v1.Den v3.Den) fun v11 => (
 bdO (fiducialref02_reduced n v9 v11) fun v13 => (
 some (v13)
 )
 )
 )
 )
 )
 )
 )

def fiducialref02_Sub (n : Nat) (x' : api_Rat) (y : api_Rat) : Option (api_Rat) :=
 bdO (fiducialref02_Neg n y) fun v1 => (
 bdO (fiducialref02_Add n x' v1) fun v3 => (
 some (v3)
 )
 )

def fiducialref02_Abs (n : Nat) (x' : api_Rat) : Option (api_Rat) :=
 bdO (fiducialref02_Sign n x') fun v1 => (
 cdO (decide (v1 < 0)) (
  bdO (fiducialref02_Neg n x') fun v4 => (
  some (v4)
  )
 ) (
  bdO (fiducialref02_Value n x') fun v6 => (
  some (v6)
  )
 )
 )

def fiducialref02_Compare (n : Nat) (x' : api_Rat) (y : api_Rat) : Option (Int) :=
 bdO (fiducialref02_Sub n x' y) fun v1 => (
 bdO (fiducialref02_Sign n v1) fun v3 => (
 some (v3)
 )
 )

def fiduciallaw55_near (n : Nat) (x' : api_Rat) (at' : Int) (length : api_Rat) : Option (Bool) :=
 bdO (fiducialref02_Whole n at') fun v1 => (
 bdO (fiducialref02_Sub n x' v1) fun v3 => (
 bdO (fiducialref02_Abs n v3) fun v5 => (
 bdO (fiducialref02_Add n v5 v5) fun v7 => (
 bdO (fiducialref02_Compare n v7 length) fun v9 => (
 some (decide (v9 ≤ 0))
 )
 )
 )
 )
 )

def fiduciallaw55_serves (n : Nat) (s : api_Survey) (f : api_Flight) (l : List api_Pix) (set : List Int) : Option (Bool) :=
 bdO (fiduciallaw55_size n s f.Height s.High) fun v1 => (
 bdO (fiduciallaw55_positions n f) fun v3 => (
 bdO (loopO (α := Int) (β := Sum (Unit) (Bool)) n (fun again45 x_5 => (
  cdO (decide (x_5 < (v3.length : Int))) (
   gdO (inR x_5 v3.length) (
   bdO (loopO (α := Bool × Int) (β := Bool) n (fun again66 (ok_49, x_50) => (
    cdO (decide (x_50 < (set.length : Int))) (
     gdO (inR x_50 set.length) (
     cdO ok_49 (
      again66 (true, wrapF .i64 (x_50 + 1))
     ) (
      gdO (inR (gt set x_50) l.length) (
      bdO (fiducialref02_Whole n (gt l (gt set x_50)).X) fun v72 => (
      bdO (fiduciallaw55_near n v72 (gt v3 x_5).X v1.1) fun v74 => (
      cdO v74 (
       bdO (fiducialref02_Whole n (gt l (gt set x_50)).Y) fun v77 => (
       bdO (fiduciallaw55_near n v77 (gt v3 x_5).Y v1.2) fun v79 => (
       again66 (v79, wrapF .i64 (x_50 + 1))
       )
       )
      ) (
       again66 (false, wrapF .i64 (x_50 + 1))
      )
      )
      )
      )
     )
     )
    ) (
     some (ok_49)
    )
   )) (false, 0)) fun ok_65 => (
    cdO (!ok_65) (
     some (Sum.inr (false))
    ) (
     again45 (wrapF .i64 (x_5 + 1))
    )
   )
   )
  ) (
   some (Sum.inl ())
  )
 )) 0) fun o85 => (
  match o85 with
  | .inl _ => (
   some (true)
  )
  | .inr (r0) => (
   some r0
  ))
 )
 )

def fiduciallaw55_control (n : Nat) (s : api_Survey) (f : api_Flight) (l : List api_Pix) : Option (List Int × Bool) :=
 gdO (decide (0 ≤ (l.length : Int))) (
 bdO (loopO (α := List Int × Bool × Int) (β := List Int × Bool) n (fun again62 (best_2, found_3, x_4) => (
  cdO (decide (x_4 < (shlF .i64 (1 : Int) (l.length : Int)))) (
   bdO (loopO (α := List Int × Int) (β := List Int) n (fun again93 (set_84, x_85) => (
    cdO (decide (x_85 < (l.length : Int))) (
     gdO (decide (0 ≤ x_85)) (
     cdO (((bitO .and .i64 (shrF .i64 x_4 x_85) 1) : Int) == 1) (
      gdO (decide ((set_84.length + 1) * 8 ≤ 140737488355328)) (
      gdO (decide (set_84.length + 1 ≤ 4611686018427387904)) (
      again93 (set_84 ++ [x_85], wrapF .i64 (x_85 + 1))
      )
      )
     ) (
      again93 (set_84, wrapF .i64 (x_85 + 1))
     )
     )
    ) (
     some (set_84)
    )
   )) ([], 0)) fun set_92 => (
    cdO found_3 (
     cdO (decide ((set_92.length : Int) > (best_2.length : Int))) (
      again62 (best_2, found_3, wrapF .i64 (x_4 + 1))
     ) (
      cdO (((set_92.length : Int) : Int) == (best_2.length : Int)) (
       bdO (slices_Compare_int_int n set_92 best_2) fun v106 => (
       cdO (decide (v106 > 0)) (
        again62 (best_2, found_3, wrapF .i64 (x_4 + 1))
       ) (
        bdO (fiduciallaw55_serves n s f l set_92) fun v109 => (
        cdO v109 (
         again62 (set_92, true, wrapF .i64 (x_4 + 1))
        ) (
         again62 (best_2, found_3, wrapF .i64 (x_4 + 1))
        )
        )
       )
       )
      ) (
       bdO (fiduciallaw55_serves n s f l set_92) fun v112 => (
       cdO v112 (
        again62 (set_92, true, wrapF .i64 (x_4 + 1))
       ) (
        again62 (best_2, found_3, wrapF .i64 (x_4 + 1))
       )
       )
      )
     )
    ) (
     bdO (fiduciallaw55_serves n s f l set_92) fun v115 => (
     cdO v115 (
      again62 (set_92, true, wrapF .i64 (x_4 + 1))
     ) (
      again62 (best_2, found_3, wrapF .i64 (x_4 + 1))
     )
     )
    )
   )
  ) (
   some ((best_2, found_3))
  )
 )) ([], false, 0)) fun o118 => (
  match o118 with
  | (best_60, found_61) => (
   some ((best_60, found_61))
  ))
 )

def slices_Equal_int_int (n : Nat) (s1 : List Int) (s2 : List Int) : Option (Bool) :=
 cdO (((s1.length : Int) : Int) != (s2.length : Int)) (
  some (false)
 ) (
  bdO (loopO (α := Int) (β := Sum (Unit) (Bool)) n (fun again7 x_2 => (
   cdO (decide (x_2 < (s1.length : Int))) (
    gdO (inR x_2 s1.length) (
    gdO (inR x_2 s2.length) (
    cdO (((gt s1 x_2) : Int) != (gt s2 x_2)) (
     some (Sum.inr (false))
    ) (
     again7 (wrapF .i64 (x_2 + 1))
    )
    )
    )
   ) (
    some (Sum.inl ())
   )
  )) 0) fun o12 => (
   match o12 with
   | .inl _ => (
    some (true)
   )
   | .inr (r0) => (
    some r0
   ))
 )

def fiduciallaw55_PlanControls (n : Nat) (s : api_Survey) (f : api_Flight) (l : List api_Pix) : Option (Bool) :=
 bdO (fiduciallaw55_known n) fun v1 => (
 cdO (!v1) (
  some (false)
 ) (
  bdO (α := Sum (Unit) (Bool)) (
   bdO (fiduciallaw55_few n f 8) fun v7 => (
   cdO (!v7) (
    some (Sum.inr (true))
   ) (
    cdO (decide ((l.length : Int) > 8)) (
     cdO (decide ((l.length : Int) ≤ 16)) (
      some (Sum.inr (true))
     ) (
      cdO (decide ((l.length : Int) > 40)) (
       some (Sum.inr (true))
      ) (
       some (Sum.inl ())
      )
     )
    ) (
     cdO (decide ((l.length : Int) > 40)) (
      some (Sum.inr (true))
     ) (
      some (Sum.inl ())
     )
    )
   )
   )
  ) fun o14 => (
   match o14 with
   | .inl _ => (
    bdO (plan_Control n s f l) fun v17 => (
    bdO (fiduciallaw55_asked n s f s.High) fun v19 => (
    bdO (α := Int) (
     cdO ((v19 : Int) == 0) (
      bdO (slices_ContainsFunc_fiducial_api_Pix_fiducial_api_Pix_of_fiduciallaw55_PlanControls_1 n l) fun v23 => (
      cdO v23 (
       some (2)
      ) (
       some (v19)
      )
      )
     ) (
      some (v19)
     )
    ) fun c_21 => (
     bdO (α := Int) (
      cdO ((c_21 : Int) == 0) (
       cdO (decide ((l.length : Int) > 16)) (
        some (3)
       ) (
        some (c_21)
       )
      ) (
       some (c_21)
      )
     ) fun c_29 => (
      cdO ((c_29 : Int) == 0) (
       bdO (fiduciallaw55_control n s f l) fun v36 => (
       bdO (α := Int) (
        cdO (!v36.2) (
         some (6)
        ) (
         some (c_29)
        )
       ) fun c_38 => (
        cdO ((c_38 : Int) != 0) (
         cdO ((v17.2 : Int) == c_38) (
          some (((v17.1.length : Int) : Int) == 0)
         ) (
          some (false)
         )
        ) (
         cdO ((v17.2 : Int) == 0) (
          bdO (slices_Equal_int_int n v17.1 v36.1) fun v46 => (
          some (v46)
          )
         ) (
          some (false)
         )
        )
       )
       )
      ) (
       cdO ((c_29 : Int) != 0) (
        cdO ((v17.2 : Int) == c_29) (
         some (((v17.1.length : Int) : Int) == 0)
        ) (
         some (false)
        )
       ) (
        cdO ((v17.2 : Int) == 0) (
         bdO (slices_Equal_int_int n v17.1 []) fun v51 => (
         some (v51)
         )
        ) (
         some (false)
        )
       )
      )
     )
    )
    )
    )
   )
   | .inr (r0) => (
    some r0
   ))
 )
 )
end Go.L
