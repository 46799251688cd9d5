/- The program's functions as plain Lean programs, printed by a program. -/
import Derived.Test.YtndmnfmpbcecaaaSc11hhfbglje
import Derived.Test.YtndmnfmpbcecaaaScMhehnolhn
import Derived.Test.YtndmnfmpbcecaaaScWdabpmehg
import Derived.Test.YtndmnfmpbcecaaaScSacfngknk
set_option linter.all false
set_option maxRecDepth 100000
set_option maxHeartbeats 4000000
namespace Go.L
open Go Go.Eng
structure api_Mark where
 Image : Int
 Feature : Int
 deriving Inhabited, DecidableEq

structure api_Tie where
 A : api_Mark
 B : api_Mark
 Cost : Int
 deriving Inhabited, DecidableEq

def api_Tie.c (x : api_Tie) : List AV := [.at (.int .i64 x.A.Image), .at (.int .i64 x.A.Feature), .at (.int .i64 x.B.Image), .at (.int .i64 x.B.Feature), .at (.int .i64 x.Cost)]
theorem api_Tie.len : ∀ x, (api_Tie.c x).length = 5 := fun _ => rfl
theorem api_Tie.pure : ∀ x, idsOfL (api_Tie.c x) = [] := fun _ => rfl

def api_Mark.c (x : api_Mark) : List AV := [.at (.int .i64 x.Image), .at (.int .i64 x.Feature)]
theorem api_Mark.len : ∀ x, (api_Mark.c x).length = 2 := fun _ => rfl
theorem api_Mark.pure : ∀ x, idsOfL (api_Mark.c x) = [] := fun _ => rfl

theorem api_Mark.inj : ∀ x y, api_Mark.c x = api_Mark.c y → x = y := by
 rintro ⟨_, _⟩ ⟨_, _⟩ h
 simp only [api_Mark.c, List.cons.injEq, AV.at.injEq, Value.int.injEq, Value.bool.injEq, true_and, and_true] at h
 simp_all

def api_Mark_i64.K (x : api_Mark) : Value := .agg #[.int .i64 x.Image, .int .i64 x.Feature]
theorem api_Mark_i64.key : KeyK api_Mark_i64.K := fun ⟨a0, a1⟩ ⟨b0, b1⟩ => by
 have h : ((⟨a0, a1⟩ : api_Mark) == ⟨b0, b1⟩) = (a0 == b0 && (a1 == b1 && true)) := by rw [Bool.eq_iff_iff]; simp
 show some _ = some _
 rw [h]

def fiduciallaw26_known (n : Nat) : Option (Bool) := some true

def fiduciallaw26_few (n : Nat) (l : List api_Tie) : Option (Bool) :=
 cdO (decide ((l.length : Int) ≤ 30)) (
  some (true)
 ) (
  cdO (decide ((l.length : Int) > 256)) (
   some (decide ((l.length : Int) ≤ 300))
  ) (
   some (false)
  )
 )

def fiduciallaw26_short_1 (n : Nat) (t : List api_Mark) : Option (Bool) :=
 some (decide ((t.length : Int) > 20))

def slices_IndexFunc_fiducial_api_Mark_fiducial_api_Mark_of_fiduciallaw26_short_1 (n : Nat) (s : List (List api_Mark)) : Option (Int) :=
 bdO (loopO (α := Int) (β := Sum (Unit) (Int)) n (fun again7 x_1 => (
  cdO (decide (x_1 < (s.length : Int))) (
   gdO (inR x_1 s.length) (
   bdO (fiduciallaw26_short_1 n (gt s x_1)) fun v10 => (
   cdO v10 (
    some (Sum.inr (x_1))
   ) (
    again7 (wrapF .i64 (x_1 + 1))
   )
   )
   )
  ) (
   some (Sum.inl ())
  )
 )) 0) fun o13 => (
  match o13 with
  | .inl _ => (
   some ((-1))
  )
  | .inr (r0) => (
   some r0
  ))

def slices_ContainsFunc_fiducial_api_Mark_fiducial_api_Mark_of_fiduciallaw26_short_1 (n : Nat) (s : List (List api_Mark)) : Option (Bool) :=
 bdO (slices_IndexFunc_fiducial_api_Mark_fiducial_api_Mark_of_fiduciallaw26_short_1 n s) fun v1 => (
 some (decide (v1 ≥ 0))
 )

def fiduciallaw26_short (n : Nat) (l : List (List api_Mark)) : Option (Bool) :=
 cdO (decide ((l.length : Int) ≤ 20)) (
  bdO (slices_ContainsFunc_fiducial_api_Mark_fiducial_api_Mark_of_fiduciallaw26_short_1 n l) fun v2 => (
  some (!v2)
  )
 ) (
  cdO (decide ((l.length : Int) > 256)) (
   cdO (decide ((l.length : Int) ≤ 300)) (
    bdO (slices_ContainsFunc_fiducial_api_Mark_fiducial_api_Mark_of_fiduciallaw26_short_1 n l) fun v6 => (
    some (!v6)
    )
   ) (
    some (false)
   )
  ) (
   some (false)
  )
 )

def fiduciallaw26_Checked (n : Nat) (l : List api_Tie) : Option (Int) :=
 cdO (decide ((l.length : Int) > 256)) (
  some (3)
 ) (
  bdO (loopO (α := Int) (β := Sum (Unit) (Int)) n (fun again48 x_3 => (
   cdO (decide (x_3 < (l.length : Int))) (
    gdO (inR x_3 l.length) (
    bdO (loopO (α := Int) (β := Sum (Unit) (Int)) n (fun again79 x_71 => (
     cdO (decide (x_71 < 2)) (
      gdO (inR x_71 ([(gt l x_3).A, (gt l x_3).B].length)) (
      cdO (decide ((gt [(gt l x_3).A, (gt l x_3).B] x_71).Image < 0)) (
       some (Sum.inr (2))
      ) (
       cdO (decide ((gt [(gt l x_3).A, (gt l x_3).B] x_71).Image ≥ 64)) (
        some (Sum.inr (2))
       ) (
        cdO (decide ((gt [(gt l x_3).A, (gt l x_3).B] x_71).Feature < 0)) (
         some (Sum.inr (2))
        ) (
         cdO (decide ((gt [(gt l x_3).A, (gt l x_3).B] x_71).Feature > 4095)) (
          some (Sum.inr (2))
         ) (
          again79 (wrapF .i64 (x_71 + 1))
         )
        )
       )
      )
      )
     ) (
      some (Sum.inl ())
     )
    )) 0) fun o87 => (
     match o87 with
     | .inl _ => (
      cdO (decide ((gt l x_3).Cost < 0)) (
       some (Sum.inr (2))
      ) (
       cdO (decide ((gt l x_3).Cost > 1048576)) (
        some (Sum.inr (2))
       ) (
        cdO (decide ((gt l x_3).A.Image ≥ (gt l x_3).B.Image)) (
         some (Sum.inr (5))
        ) (
         again48 (wrapF .i64 (x_3 + 1))
        )
       )
      )
     )
     | .inr (r0) => (
      some (Sum.inr (r0))
     ))
    )
   ) (
    some (Sum.inl ())
   )
  )) 0) fun o93 => (
   match o93 with
   | .inl _ => (
    some (0)
   )
   | .inr (r0) => (
    some r0
   ))
 )

def slices_Index_fiducial_api_Mark_fiducial_api_Mark (n : Nat) (s : List api_Mark) (v : api_Mark) : Option (Int) :=
 bdO (loopO (α := Int) (β := Sum (Unit) (Int)) n (fun again5 x_1 => (
  cdO (decide (x_1 < (s.length : Int))) (
   gdO (inR x_1 s.length) (
   cdO (((v.Image : Int) == (gt s x_1).Image) && (((v.Feature : Int) == (gt s x_1).Feature) && true)) (
    some (Sum.inr (x_1))
   ) (
    again5 (wrapF .i64 (x_1 + 1))
   )
   )
  ) (
   some (Sum.inl ())
  )
 )) 0) fun o9 => (
  match o9 with
  | .inl _ => (
   some ((-1))
  )
  | .inr (r0) => (
   some r0
  ))

def slices_Contains_fiducial_api_Mark_fiducial_api_Mark (n : Nat) (s : List api_Mark) (v : api_Mark) : Option (Bool) :=
 bdO (slices_Index_fiducial_api_Mark_fiducial_api_Mark n s v) fun v1 => (
 some (decide (v1 ≥ 0))
 )

def fiduciallaw26_where_1 (n : Nat) (l : List api_Mark) (p : Int) (p' : Int) : Option (Bool) :=
 bdO (slices_Contains_fiducial_api_Mark_fiducial_api_Mark n l (api_Mark.mk p p')) fun v1 => (
 some (v1)
 )

def slices_IndexFunc_fiducial_api_Mark_fiducial_api_Mark_of_fiduciallaw26_where_1 (n : Nat) (s : List (List api_Mark)) (c : Int) (c' : Int) : Option (Int) :=
 bdO (loopO (α := Int) (β := Sum (Unit) (Int)) n (fun again7 x_1 => (
  cdO (decide (x_1 < (s.length : Int))) (
   gdO (inR x_1 s.length) (
   bdO (fiduciallaw26_where_1 n (gt s x_1) c c') fun v10 => (
   cdO v10 (
    some (Sum.inr (x_1))
   ) (
    again7 (wrapF .i64 (x_1 + 1))
   )
   )
   )
  ) (
   some (Sum.inl ())
  )
 )) 0) fun o13 => (
  match o13 with
  | .inl _ => (
   some ((-1))
  )
  | .inr (r0) => (
   some r0
  ))

def fiduciallaw26_where (n : Nat) (tracks : List (List api_Mark)) (m' : api_Mark) : Option (Int) :=
 bdO (slices_IndexFunc_fiducial_api_Mark_fiducial_api_Mark_of_fiduciallaw26_where_1 n tracks m'.Image m'.Feature) fun v1 => (
 some (v1)
 )

def cmp_isNaN_int (n : Nat) (x' : Int) : Option (Bool) :=
 some ((x' : Int) != x')

def cmp_Compare_int (n : Nat) (x' : Int) (y : Int) : Option (Int) :=
 bdO (cmp_isNaN_int n x') fun v1 => (
 bdO (cmp_isNaN_int n y) fun v3 => (
 cdO v1 (
  cdO v3 (
   some (0)
  ) (
   some ((-1))
  )
 ) (
  cdO v3 (
   some (1)
  ) (
   cdO (decide (x' < y)) (
    some ((-1))
   ) (
    cdO (decide (x' > y)) (
     some (1)
    ) (
     some (0)
    )
   )
  )
 )
 )
 )

def cmp_Or_int (n : Nat) (vals : List Int) : Option (Int) :=
 bdO (loopO (α := Int) (β := Sum (Unit) (Int)) n (fun again5 x_1 => (
  cdO (decide (x_1 < (vals.length : Int))) (
   gdO (inR x_1 vals.length) (
   cdO (((gt vals x_1) : Int) != 0) (
    some (Sum.inr ((gt vals x_1)))
   ) (
    again5 (wrapF .i64 (x_1 + 1))
   )
   )
  ) (
   some (Sum.inl ())
  )
 )) 0) fun o9 => (
  match o9 with
  | .inl _ => (
   some (0)
  )
  | .inr (r0) => (
   some r0
  ))

def fiduciallaw26_mark (n : Nat) (a : api_Mark) (b : api_Mark) : Option (Int) :=
 bdO (cmp_Compare_int n a.Image b.Image) fun v1 => (
 bdO (cmp_Compare_int n a.Feature b.Feature) fun v3 => (
 bdO (cmp_Or_int n [v1, v3]) fun v5 => (
 some (v5)
 )
 )
 )

def fiduciallaw26_order (n : Nat) (a : api_Tie) (b : api_Tie) : Option (Int) :=
 bdO (cmp_Compare_int n a.Cost b.Cost) fun v1 => (
 bdO (fiduciallaw26_mark n a.A b.A) fun v3 => (
 bdO (fiduciallaw26_mark n a.B b.B) fun v5 => (
 bdO (cmp_Or_int n [v1, v3, v5]) fun v7 => (
 some (v7)
 )
 )
 )
 )

def slices_Clone_fiducial_api_Tie_fiducial_api_Tie_w (n : Nat) (s : List api_Tie) : Option (List api_Tie) :=
 gdO (decide ((0 + s.length) * 40 ≤ 140737488355328)) (
 gdO (decide (0 + s.length ≤ 4611686018427387904)) (
 some (s)
 )
 )

def slices_SortFunc_fiducial_api_Tie_fiducial_api_Tie_w_of_fiduciallaw26_order (n : Nat) (x' : List api_Tie) : Option (List api_Tie) :=
 gdO (decide (x'.length < 4611686018427387904)) (
 sortC (fun x y => fiduciallaw26_order n x y) x'
 )

def fiduciallaw26_images_w (n : Nat) (l : List api_Mark) : Option (List Int) :=
 bdO (loopO (α := List Int × Int) (β := List Int) n (fun again27 (out_19, x_20) => (
  cdO (decide (x_20 < (l.length : Int))) (
   gdO (inR x_20 l.length) (
   gdO (decide ((out_19.length + 1) * 8 ≤ 140737488355328)) (
   gdO (decide (out_19.length + 1 ≤ 4611686018427387904)) (
   again27 (out_19 ++ [(gt l x_20).Image], wrapF .i64 (x_20 + 1))
   )
   )
   )
  ) (
   some (out_19)
  )
 )) ([], 0)) fun out_26 => (
  some (out_26)
 )

def fiduciallaw26_images (n : Nat) (l : List api_Mark) : Option (List Int) :=
 bdO (loopO (α := List Int × Int) (β := List Int) n (fun again9 (out_1, x_2) => (
  cdO (decide (x_2 < (l.length : Int))) (
   gdO (inR x_2 l.length) (
   gdO (decide ((out_1.length + 1) * 8 ≤ 140737488355328)) (
   gdO (decide (out_1.length + 1 ≤ 4611686018427387904)) (
   again9 (out_1 ++ [(gt l x_2).Image], wrapF .i64 (x_2 + 1))
   )
   )
   )
  ) (
   some (out_1)
  )
 )) ([], 0)) fun out_8 => (
  some (out_8)
 )

def slices_Index_int_int (n : Nat) (s : List Int) (v : Int) : Option (Int) :=
 bdO (loopO (α := Int) (β := Sum (Unit) (Int)) n (fun again5 x_1 => (
  cdO (decide (x_1 < (s.length : Int))) (
   gdO (inR x_1 s.length) (
   cdO ((v : Int) == (gt s x_1)) (
    some (Sum.inr (x_1))
   ) (
    again5 (wrapF .i64 (x_1 + 1))
   )
   )
  ) (
   some (Sum.inl ())
  )
 )) 0) fun o9 => (
  match o9 with
  | .inl _ => (
   some ((-1))
  )
  | .inr (r0) => (
   some r0
  ))

def slices_Contains_int_int (n : Nat) (s : List Int) (v : Int) : Option (Bool) :=
 bdO (slices_Index_int_int n s v) fun v1 => (
 some (decide (v1 ≥ 0))
 )

def fiduciallaw26_all_1 (n : Nat) (n' : Int) (p : List (List api_Mark)) (p' : Int) : Option (Bool) :=
 gdO (inR p' p.length) (
 bdO (fiduciallaw26_images n (gt p p')) fun v2 => (
 bdO (slices_Contains_int_int n v2 n') fun v4 => (
 some (v4)
 )
 )
 )

def slices_IndexFunc_int_int_of_fiduciallaw26_all_1 (n : Nat) (s : List Int) (c : List (List api_Mark)) (c' : Int) : Option (Int) :=
 bdO (loopO (α := Int) (β := Sum (Unit) (Int)) n (fun again7 x_1 => (
  cdO (decide (x_1 < (s.length : Int))) (
   gdO (inR x_1 s.length) (
   bdO (fiduciallaw26_all_1 n (gt s x_1) c c') fun v10 => (
   cdO v10 (
    some (Sum.inr (x_1))
   ) (
    again7 (wrapF .i64 (x_1 + 1))
   )
   )
   )
  ) (
   some (Sum.inl ())
  )
 )) 0) fun o13 => (
  match o13 with
  | .inl _ => (
   some ((-1))
  )
  | .inr (r0) => (
   some r0
  ))

def slices_ContainsFunc_int_int_of_fiduciallaw26_all_1 (n : Nat) (s : List Int) (c : List (List api_Mark)) (c' : Int) : Option (Bool) :=
 bdO (slices_IndexFunc_int_int_of_fiduciallaw26_all_1 n s c c') fun v1 => (
 some (decide (v1 ≥ 0))
 )

def slices_Delete_fiducial_api_Mark_fiducial_api_Mark_w (n : Nat) (s : List (List api_Mark)) (y : List api_Mark) (i : Int) (j : Int) : Option (List (List api_Mark)) :=
 gdO (decide (0 ≤ i) && decide (i + 1 = j) && decide (j ≤ (s.length : Int))) (
 some (s.take i.toNat ++ s.drop j.toNat)
 )

def fiduciallaw26_all_w (n : Nat) (l : List api_Tie) : Option (List (List api_Mark)) :=
 bdO (loopO (α := List (List api_Mark) × Int) (β := List (List api_Mark)) n (fun again266 (tracks_237, x_238) => (
  cdO (decide (x_238 < (l.length : Int))) (
   gdO (inR x_238 l.length) (
   bdO (loopO (α := List (List api_Mark) × Int) (β := List (List api_Mark)) n (fun again281 (tracks_270, x_271) => (
    cdO (decide (x_271 < 2)) (
     gdO (inR x_271 ([(gt l x_238).A, (gt l x_238).B].length)) (
     bdO (fiduciallaw26_where n tracks_270 (gt [(gt l x_238).A, (gt l x_238).B] x_271)) fun v285 => (
     cdO (decide (v285 < 0)) (
      gdO (decide ((tracks_270.length + 1) * 24 ≤ 140737488355328)) (
      gdO (decide (tracks_270.length + 1 ≤ 4611686018427387904)) (
      again281 (tracks_270 ++ [[(gt [(gt l x_238).A, (gt l x_238).B] x_271)]], wrapF .i64 (x_271 + 1))
      )
      )
     ) (
      again281 (tracks_270, wrapF .i64 (x_271 + 1))
     )
     )
     )
    ) (
     some (tracks_270)
    )
   )) (tracks_237, 0)) fun tracks_280 => (
    again266 (tracks_280, wrapF .i64 (x_238 + 1))
   )
   )
  ) (
   some (tracks_237)
  )
 )) ([], 0)) fun tracks_265 => (
  bdO (slices_Clone_fiducial_api_Tie_fiducial_api_Tie_w n l) fun v296 => (
  bdO (slices_SortFunc_fiducial_api_Tie_fiducial_api_Tie_w_of_fiduciallaw26_order n v296) fun v298 => (
  gdO (decide (v298.length = v296.length)) (
  bdO (loopO (α := List (List api_Mark) × Int) (β := List (List api_Mark)) n (fun again327 (tracks_301, x_302) => (
   cdO (decide (x_302 < (v296.length : Int))) (
    gdO (inR x_302 v298.length) (
    bdO (fiduciallaw26_where n tracks_301 (gt v298 x_302).A) fun v331 => (
    bdO (fiduciallaw26_where n tracks_301 (gt v298 x_302).B) fun v333 => (
    cdO ((v331 : Int) == v333) (
     again327 (tracks_301, wrapF .i64 (x_302 + 1))
    ) (
     gdO (inR v331 tracks_301.length) (
     bdO (fiduciallaw26_images_w n (gt tracks_301 v331)) fun v337 => (
     bdO (slices_ContainsFunc_int_int_of_fiduciallaw26_all_1 n v337 tracks_301 v333) fun v339 => (
     cdO v339 (
      again327 (tracks_301.set v331.toNat (gt tracks_301 v331), wrapF .i64 (x_302 + 1))
     ) (
      gdO (inR v331 (tracks_301.set v331.toNat (gt tracks_301 v331)).length) (
      gdO (inR v333 tracks_301.length) (
      gdO (inR v333 (tracks_301.set v331.toNat (gt tracks_301 v331)).length) (
      gdO (decide (v331 ≠ v333)) (
      gdO (decide (((gt (tracks_301.set v331.toNat (gt tracks_301 v331)) v331).length + (gt (tracks_301.set v331.toNat (gt tracks_301 v331)) v333).length) * 16 ≤ 140737488355328)) (
      gdO (decide ((gt (tracks_301.set v331.toNat (gt tracks_301 v331)) v331).length + (gt (tracks_301.set v331.toNat (gt tracks_301 v331)) v333).length ≤ 4611686018427387904)) (
      bdO (slices_Delete_fiducial_api_Mark_fiducial_api_Mark_w n ((tracks_301.set v331.toNat (gt tracks_301 v331)).set v331.toNat ((gt (tracks_301.set v331.toNat (gt tracks_301 v331)) v331) ++ (gt (tracks_301.set v331.toNat (gt tracks_301 v331)) v333))) (gt (tracks_301.set v331.toNat (gt tracks_301 v331)) v333) v333 (wrapF .i64 (v333 + 1))) fun v349 => (
      again327 (v349, wrapF .i64 (x_302 + 1))
      )
      )
      )
      )
      )
      )
      )
     )
     )
     )
     )
    )
    )
    )
    )
   ) (
    some (tracks_301)
   )
  )) (tracks_265, 0)) fun tracks_326 => (
   some (tracks_326)
  )
  )
  )
  )
 )

def slices_SortFunc_fiducial_api_Mark_fiducial_api_Mark_w_of_fiduciallaw26_mark (n : Nat) (x' : List api_Mark) : Option (List api_Mark) :=
 gdO (decide (x'.length < 4611686018427387904)) (
 sortC (fun x y => fiduciallaw26_mark n x y) x'
 )

def fiduciallaw26_Chained_1 (n : Nat) (a : List api_Mark) (b : List api_Mark) : Option (Int) :=
 gdO (inR 0 a.length) (
 gdO (inR 0 b.length) (
 bdO (fiduciallaw26_mark n (gt a 0) (gt b 0)) fun v3 => (
 some (v3)
 )
 )
 )

def slices_SortFunc_fiducial_api_Mark_fiducial_api_Mark_w_of_fiduciallaw26_Chained_1 (n : Nat) (x' : List (List api_Mark)) : Option (List (List api_Mark)) :=
 gdO (decide (x'.length < 4611686018427387904)) (
 sortC (fun x y => fiduciallaw26_Chained_1 n x y) x'
 )

def fiduciallaw26_Chained (n : Nat) (l : List api_Tie) : Option (List (List api_Mark)) :=
 bdO (fiduciallaw26_all_w n l) fun v1 => (
 bdO (loopO (α := List (List api_Mark) × List (Option (List api_Mark)) × Int) (β := List (List api_Mark)) n (fun again17 (out_3, x_4, x_5) => (
  cdO (decide (x_5 < (v1.length : Int))) (
   gdO (inR x_5 x_4.length) (
   gdO (gt x_4 x_5).isSome (
   cdO (decide ((((gt x_4 x_5).getD []).length : Int) ≥ 2)) (
    bdO (slices_SortFunc_fiducial_api_Mark_fiducial_api_Mark_w_of_fiduciallaw26_mark n ((gt x_4 x_5).getD [])) fun v23 => (
    gdO (decide (v23.length = ((gt x_4 x_5).getD []).length)) (
    gdO (decide ((out_3.length + 1) * 24 ≤ 140737488355328)) (
    gdO (decide (out_3.length + 1 ≤ 4611686018427387904)) (
    again17 (out_3 ++ [v23], x_4.set x_5.toNat none, wrapF .i64 (x_5 + 1))
    )
    )
    )
    )
   ) (
    again17 (out_3, x_4.set x_5.toNat (some ((gt x_4 x_5).getD [])), wrapF .i64 (x_5 + 1))
   )
   )
   )
  ) (
   some (out_3)
  )
 )) ([], v1.map some, 0)) fun out_16 => (
  bdO (slices_SortFunc_fiducial_api_Mark_fiducial_api_Mark_w_of_fiduciallaw26_Chained_1 n out_16) fun v31 => (
  gdO (decide (v31.length = out_16.length)) (
  some (v31)
  )
  )
 )
 )

def slices_Equal_fiducial_api_Mark_fiducial_api_Mark (n : Nat) (s1 : List api_Mark) (s2 : List api_Mark) : Option (Bool) :=
 cdO (((s1.length : Int) : Int) != (s2.length : Int)) (
  some (false)
 ) (
  bdO (loopO (α := Int) (β := Sum (Unit) (Bool)) n (fun again7 x_2 => (
   cdO (decide (x_2 < (s1.length : Int))) (
    gdO (inR x_2 s1.length) (
    gdO (inR x_2 s2.length) (
    cdO (!((((gt s1 x_2).Image : Int) == (gt s2 x_2).Image) && ((((gt s1 x_2).Feature : Int) == (gt s2 x_2).Feature) && true))) (
     some (Sum.inr (false))
    ) (
     again7 (wrapF .i64 (x_2 + 1))
    )
    )
    )
   ) (
    some (Sum.inl ())
   )
  )) 0) fun o12 => (
   match o12 with
   | .inl _ => (
    some (true)
   )
   | .inr (r0) => (
    some r0
   ))
 )

def fiduciallaw26_Same_1 (n : Nat) (x' : List api_Mark) (y : List api_Mark) : Option (Bool) :=
 bdO (slices_Equal_fiducial_api_Mark_fiducial_api_Mark n x' y) fun v1 => (
 some (v1)
 )

def slices_EqualFunc_fiducial_api_Mark_fiducial_api_Mark_fiducial_api_Mark_fiducial_api_Mark_of_fiduciallaw26_Same_1 (n : Nat) (s1 : List (List api_Mark)) (s2 : List (List api_Mark)) : Option (Bool) :=
 cdO (((s1.length : Int) : Int) != (s2.length : Int)) (
  some (false)
 ) (
  bdO (loopO (α := Int) (β := Sum (Unit) (Bool)) n (fun again9 x_2 => (
   cdO (decide (x_2 < (s1.length : Int))) (
    gdO (inR x_2 s1.length) (
    gdO (inR x_2 s2.length) (
    bdO (fiduciallaw26_Same_1 n (gt s1 x_2) (gt s2 x_2)) fun v13 => (
    cdO (!v13) (
     some (Sum.inr (false))
    ) (
     again9 (wrapF .i64 (x_2 + 1))
    )
    )
    )
    )
   ) (
    some (Sum.inl ())
   )
  )) 0) fun o16 => (
   match o16 with
   | .inl _ => (
    some (true)
   )
   | .inr (r0) => (
    some r0
   ))
 )

def fiduciallaw26_Same (n : Nat) (a : List (List api_Mark)) (b : List (List api_Mark)) : Option (Bool) :=
 bdO (slices_EqualFunc_fiducial_api_Mark_fiducial_api_Mark_fiducial_api_Mark_fiducial_api_Mark_of_fiduciallaw26_Same_1 n a b) fun v1 => (
 some (v1)
 )

def track_wrong (n : Nat) (m' : api_Mark) : Option (Bool) :=
 cdO (decide (m'.Image < 0)) (
  some (true)
 ) (
  cdO (decide (m'.Image ≥ 64)) (
   some (true)
  ) (
   cdO (decide (m'.Feature < 0)) (
    some (true)
   ) (
    some (decide (m'.Feature > 4095))
   )
  )
 )

def track_Check (n : Nat) (ties : List api_Tie) : Option (Int) :=
 cdO (decide ((ties.length : Int) > 256)) (
  some (3)
 ) (
  bdO (loopO (α := Int) (β := Sum (Unit) (Int)) n (fun again16 x_3 => (
   cdO (decide (x_3 < (ties.length : Int))) (
    gdO (inR x_3 ties.length) (
    bdO (track_wrong n (gt ties x_3).A) fun v20 => (
    cdO v20 (
     some (Sum.inr (2))
    ) (
     bdO (track_wrong n (gt ties x_3).B) fun v23 => (
     cdO v23 (
      some (Sum.inr (2))
     ) (
      cdO (decide ((gt ties x_3).Cost < 0)) (
       some (Sum.inr (2))
      ) (
       cdO (decide ((gt ties x_3).Cost > 1048576)) (
        some (Sum.inr (2))
       ) (
        cdO (decide ((gt ties x_3).A.Image ≥ (gt ties x_3).B.Image)) (
         some (Sum.inr (5))
        ) (
         again16 (wrapF .i64 (x_3 + 1))
        )
       )
      )
     )
     )
    )
    )
    )
   ) (
    some (Sum.inl ())
   )
  )) 0) fun o29 => (
   match o29 with
   | .inl _ => (
    some (0)
   )
   | .inr (r0) => (
    some r0
   ))
 )

def slices_Compare_int_int (n : Nat) (s1 : List Int) (s2 : List Int) : Option (Int) :=
 bdO (loopO (α := Int) (β := Sum (Unit) (Int)) n (fun again9 x_1 => (
  cdO (decide (x_1 < (s1.length : Int))) (
   gdO (inR x_1 s1.length) (
   cdO (decide (x_1 ≥ (s2.length : Int))) (
    some (Sum.inr (1))
   ) (
    gdO (inR x_1 s2.length) (
    bdO (cmp_Compare_int n (gt s1 x_1) (gt s2 x_1)) fun v14 => (
    cdO ((v14 : Int) != 0) (
     some (Sum.inr (v14))
    ) (
     again9 (wrapF .i64 (x_1 + 1))
    )
    )
    )
   )
   )
  ) (
   some (Sum.inl ())
  )
 )) 0) fun o17 => (
  match o17 with
  | .inl _ => (
   cdO (decide ((s1.length : Int) < (s2.length : Int))) (
    some ((-1))
   ) (
    some (0)
   )
  )
  | .inr (r0) => (
   some r0
  ))

def track_compareMarks (n : Nat) (a : api_Mark) (b : api_Mark) : Option (Int) :=
 bdO (slices_Compare_int_int n [a.Image, a.Feature] [b.Image, b.Feature]) fun v1 => (
 some (v1)
 )

def track_compareTies (n : Nat) (a : api_Tie) (b : api_Tie) : Option (Int) :=
 cdO ((a.Cost : Int) != b.Cost) (
  some (wrapF .i64 (a.Cost - b.Cost))
 ) (
  bdO (track_compareMarks n a.A b.A) fun v3 => (
  cdO ((v3 : Int) != 0) (
   some (v3)
  ) (
   bdO (track_compareMarks n a.B b.B) fun v6 => (
   some (v6)
   )
  )
  )
 )

def slices_SortFunc_fiducial_api_Tie_fiducial_api_Tie_w_of_track_compareTies (n : Nat) (x' : List api_Tie) : Option (List api_Tie) :=
 gdO (decide (x'.length < 4611686018427387904)) (
 sortC (fun x y => track_compareTies n x y) x'
 )

def slices_Compact_fiducial_api_Tie_fiducial_api_Tie_w (n : Nat) (s : List api_Tie) : Option (List api_Tie) :=
 cdO (decide ((s.length : Int) < 2)) (
  some (s)
 ) (
  bdO (loopO (α := Int) (β := Sum (Unit) (List api_Tie)) n (fun again100 k_69 => (
   cdO (decide (k_69 < (s.length : Int))) (
    gdO (inR k_69 s.length) (
    gdO (inR (wrapF .i64 (k_69 - 1)) s.length) (
    cdO (((((gt s k_69).A.Image : Int) == (gt s (wrapF .i64 (k_69 - 1))).A.Image) && ((((gt s k_69).A.Feature : Int) == (gt s (wrapF .i64 (k_69 - 1))).A.Feature) && true)) && (((((gt s k_69).B.Image : Int) == (gt s (wrapF .i64 (k_69 - 1))).B.Image) && ((((gt s k_69).B.Feature : Int) == (gt s (wrapF .i64 (k_69 - 1))).B.Feature) && true)) && ((((gt s k_69).Cost : Int) == (gt s (wrapF .i64 (k_69 - 1))).Cost) && true))) (
     gdO (inS k_69 (s.length : Int) s.length) (
     bdO (loopO (α := List api_Tie × Int × Int) (β := List api_Tie × Int) n (fun again118 (s_106, k_107, k2_108) => (
      cdO (decide (k2_108 < ((s.length - k_69.toNat : Nat) : Int))) (
       gdO (inR k2_108 (s.length - k_69.toNat)) (
       gdO (inR ((k_69.toNat + k2_108.toNat : Nat) : Int) s_106.length) (
       gdO (inR (wrapF .i64 (k2_108 - 1)) (s.length - k_69.toNat)) (
       gdO (inR ((k_69.toNat + (wrapF .i64 (k2_108 - 1)).toNat : Nat) : Int) s_106.length) (
       cdO (!(((((gt s_106 ((k_69.toNat + k2_108.toNat : Nat) : Int)).A.Image : Int) == (gt s_106 ((k_69.toNat + (wrapF .i64 (k2_108 - 1)).toNat : Nat) : Int)).A.Image) && ((((gt s_106 ((k_69.toNat + k2_108.toNat : Nat) : Int)).A.Feature : Int) == (gt s_106 ((k_69.toNat + (wrapF .i64 (k2_108 - 1)).toNat : Nat) : Int)).A.Feature) && true)) && (((((gt s_106 ((k_69.toNat + k2_108.toNat : Nat) : Int)).B.Image : Int) == (gt s_106 ((k_69.toNat + (wrapF .i64 (k2_108 - 1)).toNat : Nat) : Int)).B.Image) && ((((gt s_106 ((k_69.toNat + k2_108.toNat : Nat) : Int)).B.Feature : Int) == (gt s_106 ((k_69.toNat + (wrapF .i64 (k2_108 - 1)).toNat : Nat) : Int)).B.Feature) && true)) && ((((gt s_106 ((k_69.toNat + k2_108.toNat : Nat) : Int)).Cost : Int) == (gt s_106 ((k_69.toNat + (wrapF .i64 (k2_108 - 1)).toNat : Nat) : Int)).Cost) && true)))) (
        gdO (inR k_107 s_106.length) (
        again118 (s_106.set k_107.toNat (gt s_106 ((k_69.toNat + k2_108.toNat : Nat) : Int)), wrapF .i64 (k_107 + 1), wrapF .i64 (k2_108 + 1))
        )
       ) (
        again118 (s_106, k_107, wrapF .i64 (k2_108 + 1))
       )
       )
       )
       )
       )
      ) (
       some ((s_106, k_107))
      )
     )) (s, k_69, 1)) fun o126 => (
      match o126 with
      | (s_116, k_117) => (
       gdO (inS k_117 (s_116.length : Int) s_116.length) (
       gdO (inS 0 k_117 s_116.length) (
       some (Sum.inr (((overT s_116 k_117.toNat (List.replicate (s_116.length - k_117.toNat) (api_Tie.mk (api_Mark.mk 0 0) (api_Mark.mk 0 0) 0))).take k_117.toNat)))
       )
       )
      ))
     )
    ) (
     again100 (wrapF .i64 (k_69 + 1))
    )
    )
    )
   ) (
    some (Sum.inl ())
   )
  )) 1) fun o131 => (
   match o131 with
   | .inl _ => (
    some (s)
   )
   | .inr (r0) => (
    some r0
   ))
 )

def fiducial_track_chains_add_w (n : Nat) (c : List api_Tie) (c' : List (api_Mark × Int)) (c'' : List api_Mark) (c''' : List Int) (c'''' : List Int) (m' : api_Mark) : Option (List (api_Mark × Int) × List api_Mark × List Int × List Int) :=
 cdO (hasM c' m') (
  some ((c', c'', c''', c''''))
 ) (
  gdO (decide ((c'''.length + 1) * 8 ≤ 140737488355328)) (
  gdO (decide (c'''.length + 1 ≤ 4611686018427387904)) (
  gdO (decide ((c''.length + 1) * 16 ≤ 140737488355328)) (
  gdO (decide (c''.length + 1 ≤ 4611686018427387904)) (
  gdO (decide (0 ≤ m'.Image)) (
  gdO (decide ((c''''.length + 1) * 8 ≤ 140737488355328)) (
  gdO (decide (c''''.length + 1 ≤ 4611686018427387904)) (
  some ((putM c' m' (c''.length : Int), c'' ++ [m'], c''' ++ [(c''.length : Int)], c'''' ++ [shlF .u64 (1 : Int) m'.Image]))
  )
  )
  )
  )
  )
  )
  )
 )

def fiducial_track_chains_find_w (n : Nat) (c : List api_Tie) (c' : List (api_Mark × Int)) (c'' : List api_Mark) (c''' : List Int) (c'''' : List Int) (m' : api_Mark) : Option (List Int × Int) :=
 bdO (loopO (α := List Int × Int) (β := List Int × Int) n (fun again24 (c_17, k_18) => (
  gdO (inR k_18 c_17.length) (
  cdO (((gt c_17 k_18) : Int) != k_18) (
   gdO (inR (gt c_17 k_18) c_17.length) (
   again24 (c_17.set k_18.toNat (gt c_17 (gt c_17 k_18)), (gt (c_17.set k_18.toNat (gt c_17 (gt c_17 k_18))) k_18))
   )
  ) (
   some ((c_17, k_18))
  )
  )
 )) (c''', (getM 0 c' m'))) fun o28 => (
  match o28 with
  | (c_22, k_23) => (
   some ((c_22, k_23))
  ))

def track_chained_w (n : Nat) (ties : List api_Tie) : Option (List api_Tie × List (api_Mark × Int) × List api_Mark × List Int × List Int) :=
 bdO (slices_Clone_fiducial_api_Tie_fiducial_api_Tie_w n ties) fun v58 => (
 bdO (slices_SortFunc_fiducial_api_Tie_fiducial_api_Tie_w_of_track_compareTies n v58) fun v60 => (
 gdO (decide (v60.length = v58.length)) (
 bdO (slices_Compact_fiducial_api_Tie_fiducial_api_Tie_w n v60) fun v63 => (
 bdO (loopO (α := List (api_Mark × Int) × List api_Mark × List Int × List Int × Int) (β := List (api_Mark × Int) × List api_Mark × List Int × List Int) n (fun again90 (c_65, c_66, c_67, c_68, x_69) => (
  cdO (decide (x_69 < (v63.length : Int))) (
   gdO (inR x_69 v63.length) (
   bdO (fiducial_track_chains_add_w n v63 c_65 c_66 c_67 c_68 (gt v63 x_69).A) fun v94 => (
   bdO (fiducial_track_chains_add_w n v63 v94.1 v94.2.1 v94.2.2.1 v94.2.2.2 (gt v63 x_69).B) fun v96 => (
   bdO (fiducial_track_chains_find_w n v63 v96.1 v96.2.1 v96.2.2.1 v96.2.2.2 (gt v63 x_69).A) fun v98 => (
   bdO (fiducial_track_chains_find_w n v63 v96.1 v96.2.1 v98.1 v96.2.2.2 (gt v63 x_69).B) fun v100 => (
   cdO ((v98.2 : Int) != v100.2) (
    gdO (inR v98.2 v96.2.2.2.length) (
    gdO (inR v100.2 v96.2.2.2.length) (
    cdO (((bitO .and .u64 (gt v96.2.2.2 v98.2) (gt v96.2.2.2 v100.2)) : Int) == 0) (
     gdO (inR v100.2 v100.1.length) (
     again90 (v96.1, v96.2.1, v100.1.set v100.2.toNat v98.2, v96.2.2.2.set v98.2.toNat (bitO .or .u64 (gt v96.2.2.2 v98.2) (gt v96.2.2.2 v100.2)), wrapF .i64 (x_69 + 1))
     )
    ) (
     again90 (v96.1, v96.2.1, v100.1, v96.2.2.2, wrapF .i64 (x_69 + 1))
    )
    )
    )
   ) (
    again90 (v96.1, v96.2.1, v100.1, v96.2.2.2, wrapF .i64 (x_69 + 1))
   )
   )
   )
   )
   )
   )
  ) (
   some ((c_65, c_66, c_67, c_68))
  )
 )) (([] : List (api_Mark × Int)), [], [], [], 0)) fun o107 => (
  match o107 with
  | (c_86, c_87, c_88, c_89) => (
   some ((v63, c_86, c_87, c_88, c_89))
  ))
 )
 )
 )
 )

def slices_Clone_fiducial_api_Mark_fiducial_api_Mark (n : Nat) (s : List api_Mark) : Option (List api_Mark) :=
 gdO (decide ((0 + s.length) * 16 ≤ 140737488355328)) (
 gdO (decide (0 + s.length ≤ 4611686018427387904)) (
 some (s)
 )
 )

def slices_Clone_fiducial_api_Mark_fiducial_api_Mark_w_2 (n : Nat) (s : List api_Mark) : Option (List api_Mark) :=
 gdO (decide ((0 + s.length) * 16 ≤ 140737488355328)) (
 gdO (decide (0 + s.length ≤ 4611686018427387904)) (
 some (s)
 )
 )

def slices_SortFunc_fiducial_api_Mark_fiducial_api_Mark_w_of_track_compareMarks (n : Nat) (x' : List api_Mark) : Option (List api_Mark) :=
 gdO (decide (x'.length < 4611686018427387904)) (
 sortC (fun x y => track_compareMarks n x y) x'
 )

def fiducial_track_chains_find_w_2 (n : Nat) (c : List api_Tie) (c' : List (api_Mark × Int)) (c'' : List api_Mark) (c''' : List Int) (c'''' : List Int) (m' : api_Mark) : Option (List Int × Int) :=
 bdO (loopO (α := List Int × Int) (β := List Int × Int) n (fun again24 (c_17, k_18) => (
  gdO (inR k_18 c_17.length) (
  cdO (((gt c_17 k_18) : Int) != k_18) (
   gdO (inR (gt c_17 k_18) c_17.length) (
   again24 (c_17.set k_18.toNat (gt c_17 (gt c_17 k_18)), (gt (c_17.set k_18.toNat (gt c_17 (gt c_17 k_18))) k_18))
   )
  ) (
   some ((c_17, k_18))
  )
  )
 )) (c''', (getM 0 c' m'))) fun o28 => (
  match o28 with
  | (c_22, k_23) => (
   some ((c_22, k_23))
  ))

def track_Prune (n : Nat) (tracks : List (List api_Mark)) (least : Int) : Option (List (List api_Mark)) :=
 bdO (loopO (α := List (List api_Mark) × Int) (β := List (List api_Mark)) n (fun again12 (out_1, x_2) => (
  cdO (decide (x_2 < (tracks.length : Int))) (
   gdO (inR x_2 tracks.length) (
   cdO (decide (((gt tracks x_2).length : Int) ≥ least)) (
    bdO (slices_Clone_fiducial_api_Mark_fiducial_api_Mark n (gt tracks x_2)) fun v17 => (
    gdO (decide ((out_1.length + 1) * 24 ≤ 140737488355328)) (
    gdO (decide (out_1.length + 1 ≤ 4611686018427387904)) (
    again12 (out_1 ++ [v17], wrapF .i64 (x_2 + 1))
    )
    )
    )
   ) (
    again12 (out_1, wrapF .i64 (x_2 + 1))
   )
   )
  ) (
   some (out_1)
  )
 )) ([], 0)) fun out_11 => (
  some (out_11)
 )

def fiducial_track_chains_tracks_w (n : Nat) (c : List api_Tie) (c' : List (api_Mark × Int)) (c'' : List api_Mark) (c''' : List Int) (c'''' : List Int) : Option (List Int × List (List api_Mark)) :=
 bdO (slices_Clone_fiducial_api_Mark_fiducial_api_Mark_w_2 n c'') fun v46 => (
 bdO (slices_SortFunc_fiducial_api_Mark_fiducial_api_Mark_w_of_track_compareMarks n v46) fun v48 => (
 gdO (decide (v48.length = v46.length)) (
 bdO (loopO (α := List Int × List (Int × Int) × List (List api_Mark) × Int) (β := List Int × List (List api_Mark)) n (fun again70 (c_51, at_52, all_53, x_54) => (
  cdO (decide (x_54 < (v46.length : Int))) (
   gdO (inR x_54 v48.length) (
   bdO (fiducial_track_chains_find_w_2 n c c' c'' c_51 c'''' (gt v48 x_54)) fun v73 => (
   cdO (!(hasM at_52 v73.2)) (
    gdO (decide ((all_53.length + 1) * 24 ≤ 140737488355328)) (
    gdO (decide (all_53.length + 1 ≤ 4611686018427387904)) (
    gdO (inR (all_53.length : Int) (all_53 ++ [([] : List api_Mark)]).length) (
    gdO (decide (((gt (all_53 ++ [([] : List api_Mark)]) (all_53.length : Int)).length + 1) * 16 ≤ 140737488355328)) (
    gdO (decide ((gt (all_53 ++ [([] : List api_Mark)]) (all_53.length : Int)).length + 1 ≤ 4611686018427387904)) (
    again70 (v73.1, putM at_52 v73.2 (all_53.length : Int), (all_53 ++ [([] : List api_Mark)]).set (all_53.length : Int).toNat ((gt (all_53 ++ [([] : List api_Mark)]) (all_53.length : Int)) ++ [(gt v48 x_54)]), wrapF .i64 (x_54 + 1))
    )
    )
    )
    )
    )
   ) (
    gdO (inR (getM 0 at_52 v73.2) all_53.length) (
    gdO (decide (((gt all_53 (getM 0 at_52 v73.2)).length + 1) * 16 ≤ 140737488355328)) (
    gdO (decide ((gt all_53 (getM 0 at_52 v73.2)).length + 1 ≤ 4611686018427387904)) (
    again70 (v73.1, at_52, all_53.set (getM 0 at_52 v73.2).toNat ((gt all_53 (getM 0 at_52 v73.2)) ++ [(gt v48 x_54)]), wrapF .i64 (x_54 + 1))
    )
    )
    )
   )
   )
   )
  ) (
   some ((c_51, all_53))
  )
 )) (c''', ([] : List (Int × Int)), [], 0)) fun o84 => (
  match o84 with
  | (c_68, all_69) => (
   bdO (track_Prune n all_69 2) fun v87 => (
   some ((c_68, v87))
   )
  ))
 )
 )
 )

def track_Chain (n : Nat) (ties : List api_Tie) : Option (List (List api_Mark) × Int) :=
 bdO (track_Check n ties) fun v1 => (
 cdO ((v1 : Int) != 0) (
  some (([], v1))
 ) (
  bdO (track_chained_w n ties) fun v4 => (
  bdO (fiducial_track_chains_tracks_w n v4.1 v4.2.1 v4.2.2.1 v4.2.2.2.1 v4.2.2.2.2) fun v6 => (
  some ((v6.2, 0))
  )
  )
 )
 )

def track_CheckTracks_1 (n : Nat) (a : List api_Mark) (b : List api_Mark) : Option (Bool) :=
 bdO (slices_Equal_fiducial_api_Mark_fiducial_api_Mark n a b) fun v1 => (
 some (v1)
 )

def slices_EqualFunc_fiducial_api_Mark_fiducial_api_Mark_fiducial_api_Mark_fiducial_api_Mark_of_track_CheckTracks_1 (n : Nat) (s1 : List (List api_Mark)) (s2 : List (List api_Mark)) : Option (Bool) :=
 cdO (((s1.length : Int) : Int) != (s2.length : Int)) (
  some (false)
 ) (
  bdO (loopO (α := Int) (β := Sum (Unit) (Bool)) n (fun again9 x_2 => (
   cdO (decide (x_2 < (s1.length : Int))) (
    gdO (inR x_2 s1.length) (
    gdO (inR x_2 s2.length) (
    bdO (track_CheckTracks_1 n (gt s1 x_2) (gt s2 x_2)) fun v13 => (
    cdO (!v13) (
     some (Sum.inr (false))
    ) (
     again9 (wrapF .i64 (x_2 + 1))
    )
    )
    )
    )
   ) (
    some (Sum.inl ())
   )
  )) 0) fun o16 => (
   match o16 with
   | .inl _ => (
    some (true)
   )
   | .inr (r0) => (
    some r0
   ))
 )

def track_CheckTracks (n : Nat) (ties : List api_Tie) (tracks : List (List api_Mark)) : Option (Int) :=
 bdO (track_Chain n ties) fun v1 => (
 cdO ((v1.2 : Int) != 0) (
  some (v1.2)
 ) (
  bdO (slices_EqualFunc_fiducial_api_Mark_fiducial_api_Mark_fiducial_api_Mark_fiducial_api_Mark_of_track_CheckTracks_1 n tracks v1.1) fun v4 => (
  cdO (!v4) (
   some (12)
  ) (
   some (0)
  )
  )
 )
 )

def fiduciallaw26_TrackChecks (n : Nat) (l : List api_Tie) (tracks : List (List api_Mark)) : Option (Bool) :=
 bdO (fiduciallaw26_known n) fun v1 => (
 cdO (!v1) (
  some (false)
 ) (
  bdO (fiduciallaw26_few n l) fun v5 => (
  cdO (!v5) (
   some (true)
  ) (
   bdO (fiduciallaw26_short n tracks) fun v8 => (
   cdO (!v8) (
    some (true)
   ) (
    bdO (fiduciallaw26_Checked n l) fun v12 => (
    cdO ((v12 : Int) == 0) (
     bdO (fiduciallaw26_Chained n l) fun v15 => (
     bdO (fiduciallaw26_Same n v15 tracks) fun v17 => (
     cdO (!v17) (
      bdO (track_CheckTracks n l tracks) fun v20 => (
      some ((v20 : Int) == 12)
      )
     ) (
      bdO (track_CheckTracks n l tracks) fun v22 => (
      some ((v22 : Int) == v12)
      )
     )
     )
     )
    ) (
     bdO (track_CheckTracks n l tracks) fun v24 => (
     some ((v24 : Int) == v12)
     )
    )
    )
   )
   )
  )
  )
 )
 )
end Go.L
