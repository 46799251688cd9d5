/- The program's functions as plain Lean programs, printed by a program. -/
import Derived.Test.YtndmnfmpbcecaaaSc11imknaplf
import Derived.Test.YtndmnfmpbcecaaaScWcemeojmp
set_option linter.all false
set_option maxRecDepth 100000
set_option maxHeartbeats 4000000
namespace Go.L
open Go Go.Eng
structure api_Mark where
 Image : Int
 Feature : Int
 deriving Inhabited

def api_Mark.c (x : api_Mark) : List AV := [.at (.int .i64 x.Image), .at (.int .i64 x.Feature)]
theorem api_Mark.len : ∀ x, (api_Mark.c x).length = 2 := fun _ => rfl
theorem api_Mark.pure : ∀ x, idsOfL (api_Mark.c x) = [] := fun _ => rfl

theorem api_Mark.inj : ∀ x y, api_Mark.c x = api_Mark.c y → x = y := by
 rintro ⟨_, _⟩ ⟨_, _⟩ h
 simp only [api_Mark.c, List.cons.injEq, AV.at.injEq, Value.int.injEq, Value.bool.injEq, true_and, and_true] at h
 simp_all

def fiduciallaw26_known (n : Nat) : Option (Bool) := some true

def fiduciallaw26_short_1 (n : Nat) (t : List api_Mark) : Option (Bool) :=
 some (decide ((t.length : Int) > 20))

def slices_IndexFunc_fiducial_api_Mark_fiducial_api_Mark_of_fiduciallaw26_short_1 (n : Nat) (s : List (List api_Mark)) : Option (Int) :=
 bdO (loopO (α := Int) (β := Sum (Unit) (Int)) n (fun again7 x_1 => (
  cdO (decide (x_1 < (s.length : Int))) (
   gdO (inR x_1 s.length) (
   bdO (fiduciallaw26_short_1 n (gt s x_1)) fun v10 => (
   cdO v10 (
    some (Sum.inr (x_1))
   ) (
    again7 (wrapF .i64 (x_1 + 1))
   )
   )
   )
  ) (
   some (Sum.inl ())
  )
 )) 0) fun o13 => (
  match o13 with
  | .inl _ => (
   some ((-1))
  )
  | .inr (r0) => (
   some r0
  ))

def slices_ContainsFunc_fiducial_api_Mark_fiducial_api_Mark_of_fiduciallaw26_short_1 (n : Nat) (s : List (List api_Mark)) : Option (Bool) :=
 bdO (slices_IndexFunc_fiducial_api_Mark_fiducial_api_Mark_of_fiduciallaw26_short_1 n s) fun v1 => (
 some (decide (v1 ≥ 0))
 )

def fiduciallaw26_short (n : Nat) (l : List (List api_Mark)) : Option (Bool) :=
 cdO (decide ((l.length : Int) ≤ 20)) (
  bdO (slices_ContainsFunc_fiducial_api_Mark_fiducial_api_Mark_of_fiduciallaw26_short_1 n l) fun v2 => (
  some (!v2)
  )
 ) (
  cdO (decide ((l.length : Int) > 256)) (
   cdO (decide ((l.length : Int) ≤ 300)) (
    bdO (slices_ContainsFunc_fiducial_api_Mark_fiducial_api_Mark_of_fiduciallaw26_short_1 n l) fun v6 => (
    some (!v6)
    )
   ) (
    some (false)
   )
  ) (
   some (false)
  )
 )

def track_sees_1 (n : Nat) (m' : api_Mark) (p : Int) : Option (Bool) :=
 some ((m'.Image : Int) == p)

def slices_IndexFunc_fiducial_api_Mark_fiducial_api_Mark_of_track_sees_1 (n : Nat) (s : List api_Mark) (c : Int) : Option (Int) :=
 bdO (loopO (α := Int) (β := Sum (Unit) (Int)) n (fun again7 x_1 => (
  cdO (decide (x_1 < (s.length : Int))) (
   gdO (inR x_1 s.length) (
   bdO (track_sees_1 n (gt s x_1) c) fun v10 => (
   cdO v10 (
    some (Sum.inr (x_1))
   ) (
    again7 (wrapF .i64 (x_1 + 1))
   )
   )
   )
  ) (
   some (Sum.inl ())
  )
 )) 0) fun o13 => (
  match o13 with
  | .inl _ => (
   some ((-1))
  )
  | .inr (r0) => (
   some r0
  ))

def slices_ContainsFunc_fiducial_api_Mark_fiducial_api_Mark_of_track_sees_1 (n : Nat) (s : List api_Mark) (c : Int) : Option (Bool) :=
 bdO (slices_IndexFunc_fiducial_api_Mark_fiducial_api_Mark_of_track_sees_1 n s c) fun v1 => (
 some (decide (v1 ≥ 0))
 )

def track_sees (n : Nat) (t : List api_Mark) (image : Int) : Option (Bool) :=
 bdO (slices_ContainsFunc_fiducial_api_Mark_fiducial_api_Mark_of_track_sees_1 n t image) fun v1 => (
 some (v1)
 )

def track_Common (n : Nat) (tracks : List (List api_Mark)) (a : Int) (b : Int) : Option (List Int) :=
 bdO (loopO (α := List Int × Int) (β := List Int) n (fun again15 (out_1, x_2) => (
  cdO (decide (x_2 < (tracks.length : Int))) (
   gdO (inR x_2 tracks.length) (
   bdO (track_sees n (gt tracks x_2) a) fun v19 => (
   cdO v19 (
    bdO (track_sees n (gt tracks x_2) b) fun v22 => (
    cdO v22 (
     gdO (decide ((out_1.length + 1) * 8 ≤ 140737488355328)) (
     gdO (decide (out_1.length + 1 ≤ 4611686018427387904)) (
     again15 (out_1 ++ [x_2], wrapF .i64 (x_2 + 1))
     )
     )
    ) (
     again15 (out_1, wrapF .i64 (x_2 + 1))
    )
    )
   ) (
    again15 (out_1, wrapF .i64 (x_2 + 1))
   )
   )
   )
  ) (
   some (out_1)
  )
 )) ([], 0)) fun out_14 => (
  some (out_14)
 )

def track_Cover (n : Nat) (tracks : List (List api_Mark)) (images : Int) : Option (List (List Int) × Int) :=
 cdO (decide (images < 1)) (
  some (([], 3))
 ) (
  cdO (decide (images > 64)) (
   some (([], 3))
  ) (
   cdO (decide ((tracks.length : Int) > 256)) (
    some (([], 3))
   ) (
    bdO (loopO (α := Int) (β := Sum (Unit) (List (List Int) × Int)) n (fun again65 x_46 => (
     cdO (decide (x_46 < (tracks.length : Int))) (
      gdO (inR x_46 tracks.length) (
      bdO (loopO (α := Int) (β := Sum (Unit) (List (List Int) × Int)) n (fun again75 x_69 => (
       cdO (decide (x_69 < ((gt tracks x_46).length : Int))) (
        gdO (inR x_69 (gt tracks x_46).length) (
        cdO (decide ((gt (gt tracks x_46) x_69).Image < 0)) (
         some (Sum.inr (([], 2)))
        ) (
         cdO (decide ((gt (gt tracks x_46) x_69).Image ≥ images)) (
          some (Sum.inr (([], 2)))
         ) (
          again75 (wrapF .i64 (x_69 + 1))
         )
        )
        )
       ) (
        some (Sum.inl ())
       )
      )) 0) fun o81 => (
       match o81 with
       | .inl _ => (
        again65 (wrapF .i64 (x_46 + 1))
       )
       | .inr (r0) => (
        some (Sum.inr (r0))
       ))
      )
     ) (
      some (Sum.inl ())
     )
    )) 0) fun o84 => (
     match o84 with
     | .inl _ => (
      gdO (decide (0 ≤ images)) (
      gdO (decide ((24 : Int) * images ≤ 281474976710656)) (
      gdO (decide (images ≤ 9223372036854775807)) (
      bdO (loopO (α := List (List Int) × Int) (β := List (List Int)) n (fun again117 (out_90, x_91) => (
       cdO (decide (x_91 < ((List.replicate images.toNat ([] : List Int)).length : Int))) (
        gdO (decide ((8 : Int) * images ≤ 281474976710656)) (
        gdO (inR x_91 out_90.length) (
        gdO (inR x_91 (out_90.set x_91.toNat (List.replicate images.toNat ((0 : Int) : Int))).length) (
        bdO (loopO (α := List (List Int) × Int) (β := List (List Int)) n (fun again132 (out_123, x_124) => (
         cdO (decide (x_124 < ((gt (out_90.set x_91.toNat (List.replicate images.toNat ((0 : Int) : Int))) x_91).length : Int))) (
          gdO (inR x_91 out_123.length) (
          bdO (track_Common n tracks x_91 x_124) fun v136 => (
          gdO (inR x_124 (gt out_123 x_91).length) (
          again132 (out_123.set x_91.toNat ((gt out_123 x_91).set x_124.toNat (v136.length : Int)), wrapF .i64 (x_124 + 1))
          )
          )
          )
         ) (
          some (out_123)
         )
        )) ((out_90.set x_91.toNat (List.replicate images.toNat ((0 : Int) : Int))).set x_91.toNat (gt (out_90.set x_91.toNat (List.replicate images.toNat ((0 : Int) : Int))) x_91), 0)) fun out_131 => (
         again117 (out_131, wrapF .i64 (x_91 + 1))
        )
        )
        )
        )
       ) (
        some (out_90)
       )
      )) (List.replicate images.toNat ([] : List Int), 0)) fun out_116 => (
       some ((out_116, 0))
      )
      )
      )
      )
     )
     | .inr (r0) => (
      some r0
     ))
   )
  )
 )

def fiduciallaw26_TrackCovers_1 (n : Nat) (x' : api_Mark) (p : Int) : Option (Bool) :=
 cdO (decide (x'.Image < 0)) (
  some (true)
 ) (
  some (decide (x'.Image ≥ p))
 )

def slices_IndexFunc_fiducial_api_Mark_fiducial_api_Mark_of_fiduciallaw26_TrackCovers_1 (n : Nat) (s : List api_Mark) (c : Int) : Option (Int) :=
 bdO (loopO (α := Int) (β := Sum (Unit) (Int)) n (fun again7 x_1 => (
  cdO (decide (x_1 < (s.length : Int))) (
   gdO (inR x_1 s.length) (
   bdO (fiduciallaw26_TrackCovers_1 n (gt s x_1) c) fun v10 => (
   cdO v10 (
    some (Sum.inr (x_1))
   ) (
    again7 (wrapF .i64 (x_1 + 1))
   )
   )
   )
  ) (
   some (Sum.inl ())
  )
 )) 0) fun o13 => (
  match o13 with
  | .inl _ => (
   some ((-1))
  )
  | .inr (r0) => (
   some r0
  ))

def slices_ContainsFunc_fiducial_api_Mark_fiducial_api_Mark_of_fiduciallaw26_TrackCovers_1 (n : Nat) (s : List api_Mark) (c : Int) : Option (Bool) :=
 bdO (slices_IndexFunc_fiducial_api_Mark_fiducial_api_Mark_of_fiduciallaw26_TrackCovers_1 n s c) fun v1 => (
 some (decide (v1 ≥ 0))
 )

def fiduciallaw26_images (n : Nat) (l : List api_Mark) : Option (List Int) :=
 bdO (loopO (α := List Int × Int) (β := List Int) n (fun again9 (out_1, x_2) => (
  cdO (decide (x_2 < (l.length : Int))) (
   gdO (inR x_2 l.length) (
   gdO (decide ((out_1.length + 1) * 8 ≤ 140737488355328)) (
   gdO (decide (out_1.length + 1 ≤ 4611686018427387904)) (
   again9 (out_1 ++ [(gt l x_2).Image], wrapF .i64 (x_2 + 1))
   )
   )
   )
  ) (
   some (out_1)
  )
 )) ([], 0)) fun out_8 => (
  some (out_8)
 )

def slices_Index_int_int (n : Nat) (s : List Int) (v : Int) : Option (Int) :=
 bdO (loopO (α := Int) (β := Sum (Unit) (Int)) n (fun again5 x_1 => (
  cdO (decide (x_1 < (s.length : Int))) (
   gdO (inR x_1 s.length) (
   cdO ((v : Int) == (gt s x_1)) (
    some (Sum.inr (x_1))
   ) (
    again5 (wrapF .i64 (x_1 + 1))
   )
   )
  ) (
   some (Sum.inl ())
  )
 )) 0) fun o9 => (
  match o9 with
  | .inl _ => (
   some ((-1))
  )
  | .inr (r0) => (
   some r0
  ))

def slices_Contains_int_int (n : Nat) (s : List Int) (v : Int) : Option (Bool) :=
 bdO (slices_Index_int_int n s v) fun v1 => (
 some (decide (v1 ≥ 0))
 )

def fiduciallaw26_TrackCovers (n : Nat) (tracks : List (List api_Mark)) (n' : Int) : Option (Bool) :=
 bdO (fiduciallaw26_known n) fun v1 => (
 cdO (!v1) (
  some (false)
 ) (
  bdO (fiduciallaw26_short n tracks) fun v5 => (
  cdO (!v5) (
   some (true)
  ) (
   bdO (track_Cover n tracks n') fun v9 => (
   bdO (α := Int) (
    cdO (decide (n' < 1)) (
     some (3)
    ) (
     cdO (decide (n' > 64)) (
      some (3)
     ) (
      cdO (decide ((tracks.length : Int) > 256)) (
       some (3)
      ) (
       bdO (loopO (α := Int × Int) (β := Int) n (fun again23 (want_15, x_16) => (
        cdO (decide (x_16 < (tracks.length : Int))) (
         gdO (inR x_16 tracks.length) (
         bdO (slices_ContainsFunc_fiducial_api_Mark_fiducial_api_Mark_of_fiduciallaw26_TrackCovers_1 n (gt tracks x_16) n') fun v26 => (
         cdO v26 (
          again23 (2, wrapF .i64 (x_16 + 1))
         ) (
          again23 (want_15, wrapF .i64 (x_16 + 1))
         )
         )
         )
        ) (
         some (want_15)
        )
       )) (0, 0)) fun want_22 => (
        some (want_22)
       )
      )
     )
    )
   ) fun want_11 => (
    cdO ((want_11 : Int) != 0) (
     bdO (α := Bool) (
      cdO ((v9.2 : Int) == want_11) (
       some (((v9.1.length : Int) : Int) == 0)
      ) (
       some (false)
      )
     ) fun x_38 => (
      some (x_38)
     )
    ) (
     cdO ((v9.2 : Int) != 0) (
      some (false)
     ) (
      cdO (((v9.1.length : Int) : Int) != n') (
       some (false)
      ) (
       bdO (loopO (α := Int) (β := Sum (Unit) (Bool)) n (fun again197 x_46 => (
        cdO (decide (x_46 < n')) (
         gdO (inR x_46 v9.1.length) (
         cdO ((((gt v9.1 x_46).length : Int) : Int) != n') (
          some (Sum.inr (false))
         ) (
          bdO (loopO (α := Int) (β := Sum (Unit) (Bool)) n (fun again274 x_203 => (
           cdO (decide (x_203 < n')) (
            bdO (loopO (α := Int × Int) (β := Int) n (fun again326 (k_310, x_311) => (
             cdO (decide (x_311 < (tracks.length : Int))) (
              gdO (inR x_311 tracks.length) (
              bdO (fiduciallaw26_images n (gt tracks x_311)) fun v330 => (
              bdO (slices_Contains_int_int n v330 x_46) fun v332 => (
              cdO v332 (
               bdO (fiduciallaw26_images n (gt tracks x_311)) fun v335 => (
               bdO (slices_Contains_int_int n v335 x_203) fun v337 => (
               cdO v337 (
                again326 (wrapF .i64 (k_310 + 1), wrapF .i64 (x_311 + 1))
               ) (
                again326 (k_310, wrapF .i64 (x_311 + 1))
               )
               )
               )
              ) (
               again326 (k_310, wrapF .i64 (x_311 + 1))
              )
              )
              )
              )
             ) (
              some (k_310)
             )
            )) (0, 0)) fun k_325 => (
             gdO (inR x_203 (gt v9.1 x_46).length) (
             cdO (((gt (gt v9.1 x_46) x_203) : Int) != k_325) (
              some (Sum.inr (false))
             ) (
              again274 (wrapF .i64 (x_203 + 1))
             )
             )
            )
           ) (
            some (Sum.inl ())
           )
          )) 0) fun o345 => (
           match o345 with
           | .inl _ => (
            again197 (wrapF .i64 (x_46 + 1))
           )
           | .inr (r0) => (
            some (Sum.inr (r0))
           ))
         )
         )
        ) (
         some (Sum.inl ())
        )
       )) 0) fun o348 => (
        match o348 with
        | .inl _ => (
         some (true)
        )
        | .inr (r0) => (
         some r0
        ))
      )
     )
    )
   )
   )
  )
  )
 )
 )
end Go.L
