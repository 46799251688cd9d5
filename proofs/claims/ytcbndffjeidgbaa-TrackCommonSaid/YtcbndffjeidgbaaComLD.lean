/- The program's functions as plain Lean programs, printed by a program. -/
import Derived.Test.YtcbndffjeidgbaaSc11pjadaoki
set_option linter.all false
set_option maxRecDepth 100000
set_option maxHeartbeats 4000000
namespace Go.L
open Go Go.Eng
structure api_Mark where
 Image : Int
 Feature : Int
 deriving Inhabited

def api_Mark.c (x : api_Mark) : List AV := [.at (.int .i64 x.Image), .at (.int .i64 x.Feature)]
theorem api_Mark.len : ∀ x, (api_Mark.c x).length = 2 := fun _ => rfl
theorem api_Mark.pure : ∀ x, idsOfL (api_Mark.c x) = [] := fun _ => rfl

theorem api_Mark.inj : ∀ x y, api_Mark.c x = api_Mark.c y → x = y := by
 rintro ⟨_, _⟩ ⟨_, _⟩ h
 simp only [api_Mark.c, List.cons.injEq, AV.at.injEq, Value.int.injEq, Value.bool.injEq, true_and, and_true] at h
 simp_all

def fiduciallaw26_known (n : Nat) : Option (Bool) := some true

def fiduciallaw26_short_1 (n : Nat) (t : List api_Mark) : Option (Bool) :=
 some (decide ((t.length : Int) > 20))

def slices_IndexFunc_fiducial_api_Mark_fiducial_api_Mark_of_fiduciallaw26_short_1 (n : Nat) (s : List (List api_Mark)) : Option (Int) :=
 bdO (loopO (α := Int) (β := Sum (Unit) (Int)) n (fun again7 x_1 => (
  cdO (decide (x_1 < (s.length : Int))) (
   gdO (inR x_1 s.length) (
   bdO (fiduciallaw26_short_1 n (gt s x_1)) fun v10 => (
   cdO v10 (
    some (Sum.inr (x_1))
   ) (
    again7 (wrapF .i64 (x_1 + 1))
   )
   )
   )
  ) (
   some (Sum.inl ())
  )
 )) 0) fun o13 => (
  match o13 with
  | .inl _ => (
   some ((-1))
  )
  | .inr (r0) => (
   some r0
  ))

def slices_ContainsFunc_fiducial_api_Mark_fiducial_api_Mark_of_fiduciallaw26_short_1 (n : Nat) (s : List (List api_Mark)) : Option (Bool) :=
 bdO (slices_IndexFunc_fiducial_api_Mark_fiducial_api_Mark_of_fiduciallaw26_short_1 n s) fun v1 => (
 some (decide (v1 ≥ 0))
 )

def fiduciallaw26_short (n : Nat) (l : List (List api_Mark)) : Option (Bool) :=
 cdO (decide ((l.length : Int) ≤ 20)) (
  bdO (slices_ContainsFunc_fiducial_api_Mark_fiducial_api_Mark_of_fiduciallaw26_short_1 n l) fun v2 => (
  some (!v2)
  )
 ) (
  cdO (decide ((l.length : Int) > 256)) (
   cdO (decide ((l.length : Int) ≤ 300)) (
    bdO (slices_ContainsFunc_fiducial_api_Mark_fiducial_api_Mark_of_fiduciallaw26_short_1 n l) fun v6 => (
    some (!v6)
    )
   ) (
    some (false)
   )
  ) (
   some (false)
  )
 )

def fiduciallaw26_images (n : Nat) (l : List api_Mark) : Option (List Int) :=
 bdO (loopO (α := List Int × Int) (β := List Int) n (fun again9 (out_1, x_2) => (
  cdO (decide (x_2 < (l.length : Int))) (
   gdO (inR x_2 l.length) (
   gdO (decide ((out_1.length + 1) * 8 ≤ 140737488355328)) (
   gdO (decide (out_1.length + 1 ≤ 4611686018427387904)) (
   again9 (out_1 ++ [(gt l x_2).Image], wrapF .i64 (x_2 + 1))
   )
   )
   )
  ) (
   some (out_1)
  )
 )) ([], 0)) fun out_8 => (
  some (out_8)
 )

def slices_Index_int_int (n : Nat) (s : List Int) (v : Int) : Option (Int) :=
 bdO (loopO (α := Int) (β := Sum (Unit) (Int)) n (fun again5 x_1 => (
  cdO (decide (x_1 < (s.length : Int))) (
   gdO (inR x_1 s.length) (
   cdO ((v : Int) == (gt s x_1)) (
    some (Sum.inr (x_1))
   ) (
    again5 (wrapF .i64 (x_1 + 1))
   )
   )
  ) (
   some (Sum.inl ())
  )
 )) 0) fun o9 => (
  match o9 with
  | .inl _ => (
   some ((-1))
  )
  | .inr (r0) => (
   some r0
  ))

def slices_Contains_int_int (n : Nat) (s : List Int) (v : Int) : Option (Bool) :=
 bdO (slices_Index_int_int n s v) fun v1 => (
 some (decide (v1 ≥ 0))
 )

def track_sees_1 (n : Nat) (m' : api_Mark) (p : Int) : Option (Bool) :=
 some ((m'.Image : Int) == p)

def slices_IndexFunc_fiducial_api_Mark_fiducial_api_Mark_of_track_sees_1 (n : Nat) (s : List api_Mark) (c : Int) : Option (Int) :=
 bdO (loopO (α := Int) (β := Sum (Unit) (Int)) n (fun again7 x_1 => (
  cdO (decide (x_1 < (s.length : Int))) (
   gdO (inR x_1 s.length) (
   bdO (track_sees_1 n (gt s x_1) c) fun v10 => (
   cdO v10 (
    some (Sum.inr (x_1))
   ) (
    again7 (wrapF .i64 (x_1 + 1))
   )
   )
   )
  ) (
   some (Sum.inl ())
  )
 )) 0) fun o13 => (
  match o13 with
  | .inl _ => (
   some ((-1))
  )
  | .inr (r0) => (
   some r0
  ))

def slices_ContainsFunc_fiducial_api_Mark_fiducial_api_Mark_of_track_sees_1 (n : Nat) (s : List api_Mark) (c : Int) : Option (Bool) :=
 bdO (slices_IndexFunc_fiducial_api_Mark_fiducial_api_Mark_of_track_sees_1 n s c) fun v1 => (
 some (decide (v1 ≥ 0))
 )

def track_sees (n : Nat) (t : List api_Mark) (image : Int) : Option (Bool) :=
 bdO (slices_ContainsFunc_fiducial_api_Mark_fiducial_api_Mark_of_track_sees_1 n t image) fun v1 => (
 some (v1)
 )

def track_Common (n : Nat) (tracks : List (List api_Mark)) (a : Int) (b : Int) : Option (List Int) :=
 bdO (loopO (α := List Int × Int) (β := List Int) n (fun again15 (out_1, x_2) => (
  cdO (decide (x_2 < (tracks.length : Int))) (
   gdO (inR x_2 tracks.length) (
   bdO (track_sees n (gt tracks x_2) a) fun v19 => (
   cdO v19 (
    bdO (track_sees n (gt tracks x_2) b) fun v22 => (
    cdO v22 (
     gdO (decide ((out_1.length + 1) * 8 ≤ 140737488355328)) (
     gdO (decide (out_1.length + 1 ≤ 4611686018427387904)) (
     again15 (out_1 ++ [x_2], wrapF .i64 (x_2 + 1))
     )
     )
    ) (
     again15 (out_1, wrapF .i64 (x_2 + 1))
    )
    )
   ) (
    again15 (out_1, wrapF .i64 (x_2 + 1))
   )
   )
   )
  ) (
   some (out_1)
  )
 )) ([], 0)) fun out_14 => (
  some (out_14)
 )

def slices_Equal_int_int (n : Nat) (s1 : List Int) (s2 : List Int) : Option (Bool) :=
 cdO (((s1.length : Int) : Int) != (s2.length : Int)) (
  some (false)
 ) (
  bdO (loopO (α := Int) (β := Sum (Unit) (Bool)) n (fun again7 x_2 => (
   cdO (decide (x_2 < (s1.length : Int))) (
    gdO (inR x_2 s1.length) (
    gdO (inR x_2 s2.length) (
    cdO (((gt s1 x_2) : Int) != (gt s2 x_2)) (
     some (Sum.inr (false))
    ) (
     again7 (wrapF .i64 (x_2 + 1))
    )
    )
    )
   ) (
    some (Sum.inl ())
   )
  )) 0) fun o12 => (
   match o12 with
   | .inl _ => (
    some (true)
   )
   | .inr (r0) => (
    some r0
   ))
 )

def slices_Clone_fiducial_api_Mark_fiducial_api_Mark (n : Nat) (s : List api_Mark) : Option (List api_Mark) :=
 gdO (decide ((0 + s.length) * 16 ≤ 140737488355328)) (
 gdO (decide (0 + s.length ≤ 4611686018427387904)) (
 some (s)
 )
 )

def track_Prune (n : Nat) (tracks : List (List api_Mark)) (least : Int) : Option (List (List api_Mark)) :=
 bdO (loopO (α := List (List api_Mark) × Int) (β := List (List api_Mark)) n (fun again12 (out_1, x_2) => (
  cdO (decide (x_2 < (tracks.length : Int))) (
   gdO (inR x_2 tracks.length) (
   cdO (decide (((gt tracks x_2).length : Int) ≥ least)) (
    bdO (slices_Clone_fiducial_api_Mark_fiducial_api_Mark n (gt tracks x_2)) fun v17 => (
    gdO (decide ((out_1.length + 1) * 24 ≤ 140737488355328)) (
    gdO (decide (out_1.length + 1 ≤ 4611686018427387904)) (
    again12 (out_1 ++ [v17], wrapF .i64 (x_2 + 1))
    )
    )
    )
   ) (
    again12 (out_1, wrapF .i64 (x_2 + 1))
   )
   )
  ) (
   some (out_1)
  )
 )) ([], 0)) fun out_11 => (
  some (out_11)
 )

def slices_Equal_fiducial_api_Mark_fiducial_api_Mark (n : Nat) (s1 : List api_Mark) (s2 : List api_Mark) : Option (Bool) :=
 cdO (((s1.length : Int) : Int) != (s2.length : Int)) (
  some (false)
 ) (
  bdO (loopO (α := Int) (β := Sum (Unit) (Bool)) n (fun again7 x_2 => (
   cdO (decide (x_2 < (s1.length : Int))) (
    gdO (inR x_2 s1.length) (
    gdO (inR x_2 s2.length) (
    cdO (!((((gt s1 x_2).Image : Int) == (gt s2 x_2).Image) && ((((gt s1 x_2).Feature : Int) == (gt s2 x_2).Feature) && true))) (
     some (Sum.inr (false))
    ) (
     again7 (wrapF .i64 (x_2 + 1))
    )
    )
    )
   ) (
    some (Sum.inl ())
   )
  )) 0) fun o12 => (
   match o12 with
   | .inl _ => (
    some (true)
   )
   | .inr (r0) => (
    some r0
   ))
 )

def fiduciallaw26_Same_1 (n : Nat) (x' : List api_Mark) (y : List api_Mark) : Option (Bool) :=
 bdO (slices_Equal_fiducial_api_Mark_fiducial_api_Mark n x' y) fun v1 => (
 some (v1)
 )

def slices_EqualFunc_fiducial_api_Mark_fiducial_api_Mark_fiducial_api_Mark_fiducial_api_Mark_of_fiduciallaw26_Same_1 (n : Nat) (s1 : List (List api_Mark)) (s2 : List (List api_Mark)) : Option (Bool) :=
 cdO (((s1.length : Int) : Int) != (s2.length : Int)) (
  some (false)
 ) (
  bdO (loopO (α := Int) (β := Sum (Unit) (Bool)) n (fun again9 x_2 => (
   cdO (decide (x_2 < (s1.length : Int))) (
    gdO (inR x_2 s1.length) (
    gdO (inR x_2 s2.length) (
    bdO (fiduciallaw26_Same_1 n (gt s1 x_2) (gt s2 x_2)) fun v13 => (
    cdO (!v13) (
     some (Sum.inr (false))
    ) (
     again9 (wrapF .i64 (x_2 + 1))
    )
    )
    )
    )
   ) (
    some (Sum.inl ())
   )
  )) 0) fun o16 => (
   match o16 with
   | .inl _ => (
    some (true)
   )
   | .inr (r0) => (
    some r0
   ))
 )

def fiduciallaw26_Same (n : Nat) (a : List (List api_Mark)) (b : List (List api_Mark)) : Option (Bool) :=
 bdO (slices_EqualFunc_fiducial_api_Mark_fiducial_api_Mark_fiducial_api_Mark_fiducial_api_Mark_of_fiduciallaw26_Same_1 n a b) fun v1 => (
 some (v1)
 )

def fiduciallaw26_TrackCommon (n : Nat) (tracks : List (List api_Mark)) (a : Int) (b : Int) : Option (Bool) :=
 bdO (fiduciallaw26_known n) fun v1 => (
 cdO (!v1) (
  some (false)
 ) (
  bdO (fiduciallaw26_short n tracks) fun v5 => (
  cdO (!v5) (
   some (true)
  ) (
   bdO (loopO (α := List Int × List (List api_Mark) × Int) (β := List Int × List (List api_Mark)) n (fun again101 (both_70, long_71, x_72) => (
    cdO (decide (x_72 < (tracks.length : Int))) (
     gdO (inR x_72 tracks.length) (
     bdO (α := List Int) (
      bdO (fiduciallaw26_images n (gt tracks x_72)) fun v110 => (
      bdO (slices_Contains_int_int n v110 a) fun v112 => (
      cdO v112 (
       bdO (fiduciallaw26_images n (gt tracks x_72)) fun v115 => (
       bdO (slices_Contains_int_int n v115 b) fun v117 => (
       cdO v117 (
        gdO (decide ((both_70.length + 1) * 8 ≤ 140737488355328)) (
        gdO (decide (both_70.length + 1 ≤ 4611686018427387904)) (
        some (both_70 ++ [x_72])
        )
        )
       ) (
        some (both_70)
       )
       )
       )
      ) (
       some (both_70)
      )
      )
      )
     ) fun both_109 => (
      cdO (decide (((gt tracks x_72).length : Int) ≥ a)) (
       gdO (decide ((long_71.length + 1) * 24 ≤ 140737488355328)) (
       gdO (decide (long_71.length + 1 ≤ 4611686018427387904)) (
       again101 (both_109, long_71 ++ [(gt tracks x_72)], wrapF .i64 (x_72 + 1))
       )
       )
      ) (
       again101 (both_109, long_71, wrapF .i64 (x_72 + 1))
      )
     )
     )
    ) (
     some ((both_70, long_71))
    )
   )) ([], [], 0)) fun o128 => (
    match o128 with
    | (both_99, long_100) => (
     bdO (track_Common n tracks a b) fun v131 => (
     bdO (slices_Equal_int_int n v131 both_99) fun v133 => (
     cdO v133 (
      bdO (track_Prune n tracks a) fun v136 => (
      bdO (fiduciallaw26_Same n v136 long_100) fun v138 => (
      some (v138)
      )
      )
     ) (
      some (false)
     )
     )
     )
    ))
  )
  )
 )
 )
end Go.L
