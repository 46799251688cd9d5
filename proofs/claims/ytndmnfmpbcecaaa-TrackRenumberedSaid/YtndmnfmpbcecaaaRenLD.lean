/- The program's functions as plain Lean programs, printed by a program. -/
import Derived.Test.YtndmnfmpbcecaaaSc11ameocfhg
import Derived.Test.YtndmnfmpbcecaaaScMgmkanakg
import Derived.Test.YtndmnfmpbcecaaaScWakddapmj
import Derived.Test.YtndmnfmpbcecaaaScScpgmohlf
set_option linter.all false
set_option maxRecDepth 100000
set_option maxHeartbeats 4000000
namespace Go.L
open Go Go.Eng
structure api_Mark where
 Image : Int
 Feature : Int
 deriving Inhabited, DecidableEq

structure api_Tie where
 A : api_Mark
 B : api_Mark
 Cost : Int
 deriving Inhabited, DecidableEq

structure A2 (α : Type) where
 e0 : α
 e1 : α
 deriving Inhabited

def api_Tie.c (x : api_Tie) : List AV := [.at (.int .i64 x.A.Image), .at (.int .i64 x.A.Feature), .at (.int .i64 x.B.Image), .at (.int .i64 x.B.Feature), .at (.int .i64 x.Cost)]
theorem api_Tie.len : ∀ x, (api_Tie.c x).length = 5 := fun _ => rfl
theorem api_Tie.pure : ∀ x, idsOfL (api_Tie.c x) = [] := fun _ => rfl

def api_Mark_i64.K (x : api_Mark) : Value := .agg #[.int .i64 x.Image, .int .i64 x.Feature]
theorem api_Mark_i64.key : KeyK api_Mark_i64.K := fun ⟨a0, a1⟩ ⟨b0, b1⟩ => by
 have h : ((⟨a0, a1⟩ : api_Mark) == ⟨b0, b1⟩) = (a0 == b0 && (a1 == b1 && true)) := by rw [Bool.eq_iff_iff]; simp
 show some _ = some _
 rw [h]

def api_Mark.c (x : api_Mark) : List AV := [.at (.int .i64 x.Image), .at (.int .i64 x.Feature)]
theorem api_Mark.len : ∀ x, (api_Mark.c x).length = 2 := fun _ => rfl
theorem api_Mark.pure : ∀ x, idsOfL (api_Mark.c x) = [] := fun _ => rfl

def fiduciallaw26_known (n : Nat) : Option (Bool) := some true

def track_wrong (n : Nat) (m' : api_Mark) : Option (Bool) :=
 cdO (decide (m'.Image < 0)) (
  some (true)
 ) (
  cdO (decide (m'.Image ≥ 64)) (
   some (true)
  ) (
   cdO (decide (m'.Feature < 0)) (
    some (true)
   ) (
    some (decide (m'.Feature > 4095))
   )
  )
 )

def track_Check (n : Nat) (ties : List api_Tie) : Option (Int) :=
 cdO (decide ((ties.length : Int) > 256)) (
  some (3)
 ) (
  bdO (loopO (α := Int) (β := Sum (Unit) (Int)) n (fun again16 x_3 => (
   cdO (decide (x_3 < (ties.length : Int))) (
    gdO (inR x_3 ties.length) (
    bdO (track_wrong n (gt ties x_3).A) fun v20 => (
    cdO v20 (
     some (Sum.inr (2))
    ) (
     bdO (track_wrong n (gt ties x_3).B) fun v23 => (
     cdO v23 (
      some (Sum.inr (2))
     ) (
      cdO (decide ((gt ties x_3).Cost < 0)) (
       some (Sum.inr (2))
      ) (
       cdO (decide ((gt ties x_3).Cost > 1048576)) (
        some (Sum.inr (2))
       ) (
        cdO (decide ((gt ties x_3).A.Image ≥ (gt ties x_3).B.Image)) (
         some (Sum.inr (5))
        ) (
         again16 (wrapF .i64 (x_3 + 1))
        )
       )
      )
     )
     )
    )
    )
    )
   ) (
    some (Sum.inl ())
   )
  )) 0) fun o29 => (
   match o29 with
   | .inl _ => (
    some (0)
   )
   | .inr (r0) => (
    some r0
   ))
 )

def fiduciallaw26_TrackRenumbered_1 (n : Nat) (t : api_Tie) : Option (Bool) :=
 cdO (decide ((mx t.A.Image t.B.Image) > 15)) (
  some (true)
 ) (
  some (decide ((mx t.A.Feature t.B.Feature) > 1000))
 )

def slices_IndexFunc_fiducial_api_Tie_fiducial_api_Tie_of_fiduciallaw26_TrackRenumbered_1 (n : Nat) (s : List api_Tie) : Option (Int) :=
 bdO (loopO (α := Int) (β := Sum (Unit) (Int)) n (fun again7 x_1 => (
  cdO (decide (x_1 < (s.length : Int))) (
   gdO (inR x_1 s.length) (
   bdO (fiduciallaw26_TrackRenumbered_1 n (gt s x_1)) fun v10 => (
   cdO v10 (
    some (Sum.inr (x_1))
   ) (
    again7 (wrapF .i64 (x_1 + 1))
   )
   )
   )
  ) (
   some (Sum.inl ())
  )
 )) 0) fun o13 => (
  match o13 with
  | .inl _ => (
   some ((-1))
  )
  | .inr (r0) => (
   some r0
  ))

def slices_ContainsFunc_fiducial_api_Tie_fiducial_api_Tie_of_fiduciallaw26_TrackRenumbered_1 (n : Nat) (s : List api_Tie) : Option (Bool) :=
 bdO (slices_IndexFunc_fiducial_api_Tie_fiducial_api_Tie_of_fiduciallaw26_TrackRenumbered_1 n s) fun v1 => (
 some (decide (v1 ≥ 0))
 )

def fiduciallaw26_TrackRenumbered_2 (n : Nat) (m' : api_Mark) (p : Int) (p' : Int) : Option (api_Mark) :=
 some (api_Mark.mk (wrapF .i64 ((wrapF .i64 (3 * m'.Image)) + ((wrapF .i64 p).tmod 16))) (wrapF .i64 ((wrapF .i64 (2 * m'.Feature)) + (wrapF .i64 p'))))

def cmp_isNaN_int (n : Nat) (x' : Int) : Option (Bool) :=
 some ((x' : Int) != x')

def cmp_Compare_int (n : Nat) (x' : Int) (y : Int) : Option (Int) :=
 bdO (cmp_isNaN_int n x') fun v1 => (
 bdO (cmp_isNaN_int n y) fun v3 => (
 cdO v1 (
  cdO v3 (
   some (0)
  ) (
   some ((-1))
  )
 ) (
  cdO v3 (
   some (1)
  ) (
   cdO (decide (x' < y)) (
    some ((-1))
   ) (
    cdO (decide (x' > y)) (
     some (1)
    ) (
     some (0)
    )
   )
  )
 )
 )
 )

def slices_Compare_int_int (n : Nat) (s1 : List Int) (s2 : List Int) : Option (Int) :=
 bdO (loopO (α := Int) (β := Sum (Unit) (Int)) n (fun again9 x_1 => (
  cdO (decide (x_1 < (s1.length : Int))) (
   gdO (inR x_1 s1.length) (
   cdO (decide (x_1 ≥ (s2.length : Int))) (
    some (Sum.inr (1))
   ) (
    gdO (inR x_1 s2.length) (
    bdO (cmp_Compare_int n (gt s1 x_1) (gt s2 x_1)) fun v14 => (
    cdO ((v14 : Int) != 0) (
     some (Sum.inr (v14))
    ) (
     again9 (wrapF .i64 (x_1 + 1))
    )
    )
    )
   )
   )
  ) (
   some (Sum.inl ())
  )
 )) 0) fun o17 => (
  match o17 with
  | .inl _ => (
   cdO (decide ((s1.length : Int) < (s2.length : Int))) (
    some ((-1))
   ) (
    some (0)
   )
  )
  | .inr (r0) => (
   some r0
  ))

def track_compareMarks (n : Nat) (a : api_Mark) (b : api_Mark) : Option (Int) :=
 bdO (slices_Compare_int_int n [a.Image, a.Feature] [b.Image, b.Feature]) fun v1 => (
 some (v1)
 )

def track_compareTies (n : Nat) (a : api_Tie) (b : api_Tie) : Option (Int) :=
 cdO ((a.Cost : Int) != b.Cost) (
  some (wrapF .i64 (a.Cost - b.Cost))
 ) (
  bdO (track_compareMarks n a.A b.A) fun v3 => (
  cdO ((v3 : Int) != 0) (
   some (v3)
  ) (
   bdO (track_compareMarks n a.B b.B) fun v6 => (
   some (v6)
   )
  )
  )
 )

def slices_Clone_fiducial_api_Tie_fiducial_api_Tie_w (n : Nat) (s : List api_Tie) : Option (List api_Tie) :=
 gdO (decide ((0 + s.length) * 40 ≤ 140737488355328)) (
 gdO (decide (0 + s.length ≤ 4611686018427387904)) (
 some (s)
 )
 )

def slices_SortFunc_fiducial_api_Tie_fiducial_api_Tie_w_of_track_compareTies (n : Nat) (x' : List api_Tie) : Option (List api_Tie) :=
 gdO (decide (x'.length < 4611686018427387904)) (
 sortC (fun x y => track_compareTies n x y) x'
 )

def slices_Compact_fiducial_api_Tie_fiducial_api_Tie_w (n : Nat) (s : List api_Tie) : Option (List api_Tie) :=
 cdO (decide ((s.length : Int) < 2)) (
  some (s)
 ) (
  bdO (loopO (α := Int) (β := Sum (Unit) (List api_Tie)) n (fun again100 k_69 => (
   cdO (decide (k_69 < (s.length : Int))) (
    gdO (inR k_69 s.length) (
    gdO (inR (wrapF .i64 (k_69 - 1)) s.length) (
    cdO (((((gt s k_69).A.Image : Int) == (gt s (wrapF .i64 (k_69 - 1))).A.Image) && ((((gt s k_69).A.Feature : Int) == (gt s (wrapF .i64 (k_69 - 1))).A.Feature) && true)) && (((((gt s k_69).B.Image : Int) == (gt s (wrapF .i64 (k_69 - 1))).B.Image) && ((((gt s k_69).B.Feature : Int) == (gt s (wrapF .i64 (k_69 - 1))).B.Feature) && true)) && ((((gt s k_69).Cost : Int) == (gt s (wrapF .i64 (k_69 - 1))).Cost) && true))) (
     gdO (inS k_69 (s.length : Int) s.length) (
     bdO (loopO (α := List api_Tie × Int × Int) (β := List api_Tie × Int) n (fun again118 (s_106, k_107, k2_108) => (
      cdO (decide (k2_108 < ((s.length - k_69.toNat : Nat) : Int))) (
       gdO (inR k2_108 (s.length - k_69.toNat)) (
       gdO (inR ((k_69.toNat + k2_108.toNat : Nat) : Int) s_106.length) (
       gdO (inR (wrapF .i64 (k2_108 - 1)) (s.length - k_69.toNat)) (
       gdO (inR ((k_69.toNat + (wrapF .i64 (k2_108 - 1)).toNat : Nat) : Int) s_106.length) (
       cdO (!(((((gt s_106 ((k_69.toNat + k2_108.toNat : Nat) : Int)).A.Image : Int) == (gt s_106 ((k_69.toNat + (wrapF .i64 (k2_108 - 1)).toNat : Nat) : Int)).A.Image) && ((((gt s_106 ((k_69.toNat + k2_108.toNat : Nat) : Int)).A.Feature : Int) == (gt s_106 ((k_69.toNat + (wrapF .i64 (k2_108 - 1)).toNat : Nat) : Int)).A.Feature) && true)) && (((((gt s_106 ((k_69.toNat + k2_108.toNat : Nat) : Int)).B.Image : Int) == (gt s_106 ((k_69.toNat + (wrapF .i64 (k2_108 - 1)).toNat : Nat) : Int)).B.Image) && ((((gt s_106 ((k_69.toNat + k2_108.toNat : Nat) : Int)).B.Feature : Int) == (gt s_106 ((k_69.toNat + (wrapF .i64 (k2_108 - 1)).toNat : Nat) : Int)).B.Feature) && true)) && ((((gt s_106 ((k_69.toNat + k2_108.toNat : Nat) : Int)).Cost : Int) == (gt s_106 ((k_69.toNat + (wrapF .i64 (k2_108 - 1)).toNat : Nat) : Int)).Cost) && true)))) (
        gdO (inR k_107 s_106.length) (
        again118 (s_106.set k_107.toNat (gt s_106 ((k_69.toNat + k2_108.toNat : Nat) : Int)), wrapF .i64 (k_107 + 1), wrapF .i64 (k2_108 + 1))
        )
       ) (
        again118 (s_106, k_107, wrapF .i64 (k2_108 + 1))
       )
       )
       )
       )
       )
      ) (
       some ((s_106, k_107))
      )
     )) (s, k_69, 1)) fun o126 => (
      match o126 with
      | (s_116, k_117) => (
       gdO (inS k_117 (s_116.length : Int) s_116.length) (
       gdO (inS 0 k_117 s_116.length) (
       some (Sum.inr (((overT s_116 k_117.toNat (List.replicate (s_116.length - k_117.toNat) (api_Tie.mk (api_Mark.mk 0 0) (api_Mark.mk 0 0) 0))).take k_117.toNat)))
       )
       )
      ))
     )
    ) (
     again100 (wrapF .i64 (k_69 + 1))
    )
    )
    )
   ) (
    some (Sum.inl ())
   )
  )) 1) fun o131 => (
   match o131 with
   | .inl _ => (
    some (s)
   )
   | .inr (r0) => (
    some r0
   ))
 )

def fiducial_track_chains_add_w (n : Nat) (c : List api_Tie) (c' : List (api_Mark × Int)) (c'' : List api_Mark) (c''' : List Int) (c'''' : List Int) (m' : api_Mark) : Option (List (api_Mark × Int) × List api_Mark × List Int × List Int) :=
 cdO (hasM c' m') (
  some ((c', c'', c''', c''''))
 ) (
  gdO (decide ((c'''.length + 1) * 8 ≤ 140737488355328)) (
  gdO (decide (c'''.length + 1 ≤ 4611686018427387904)) (
  gdO (decide ((c''.length + 1) * 16 ≤ 140737488355328)) (
  gdO (decide (c''.length + 1 ≤ 4611686018427387904)) (
  gdO (decide (0 ≤ m'.Image)) (
  gdO (decide ((c''''.length + 1) * 8 ≤ 140737488355328)) (
  gdO (decide (c''''.length + 1 ≤ 4611686018427387904)) (
  some ((putM c' m' (c''.length : Int), c'' ++ [m'], c''' ++ [(c''.length : Int)], c'''' ++ [shlF .u64 (1 : Int) m'.Image]))
  )
  )
  )
  )
  )
  )
  )
 )

def fiducial_track_chains_find_w (n : Nat) (c : List api_Tie) (c' : List (api_Mark × Int)) (c'' : List api_Mark) (c''' : List Int) (c'''' : List Int) (m' : api_Mark) : Option (List Int × Int) :=
 bdO (loopO (α := List Int × Int) (β := List Int × Int) n (fun again24 (c_17, k_18) => (
  gdO (inR k_18 c_17.length) (
  cdO (((gt c_17 k_18) : Int) != k_18) (
   gdO (inR (gt c_17 k_18) c_17.length) (
   again24 (c_17.set k_18.toNat (gt c_17 (gt c_17 k_18)), (gt (c_17.set k_18.toNat (gt c_17 (gt c_17 k_18))) k_18))
   )
  ) (
   some ((c_17, k_18))
  )
  )
 )) (c''', (getM 0 c' m'))) fun o28 => (
  match o28 with
  | (c_22, k_23) => (
   some ((c_22, k_23))
  ))

def track_chained_w (n : Nat) (ties : List api_Tie) : Option (List api_Tie × List (api_Mark × Int) × List api_Mark × List Int × List Int) :=
 bdO (slices_Clone_fiducial_api_Tie_fiducial_api_Tie_w n ties) fun v58 => (
 bdO (slices_SortFunc_fiducial_api_Tie_fiducial_api_Tie_w_of_track_compareTies n v58) fun v60 => (
 gdO (decide (v60.length = v58.length)) (
 bdO (slices_Compact_fiducial_api_Tie_fiducial_api_Tie_w n v60) fun v63 => (
 bdO (loopO (α := List (api_Mark × Int) × List api_Mark × List Int × List Int × Int) (β := List (api_Mark × Int) × List api_Mark × List Int × List Int) n (fun again90 (c_65, c_66, c_67, c_68, x_69) => (
  cdO (decide (x_69 < (v63.length : Int))) (
   gdO (inR x_69 v63.length) (
   bdO (fiducial_track_chains_add_w n v63 c_65 c_66 c_67 c_68 (gt v63 x_69).A) fun v94 => (
   bdO (fiducial_track_chains_add_w n v63 v94.1 v94.2.1 v94.2.2.1 v94.2.2.2 (gt v63 x_69).B) fun v96 => (
   bdO (fiducial_track_chains_find_w n v63 v96.1 v96.2.1 v96.2.2.1 v96.2.2.2 (gt v63 x_69).A) fun v98 => (
   bdO (fiducial_track_chains_find_w n v63 v96.1 v96.2.1 v98.1 v96.2.2.2 (gt v63 x_69).B) fun v100 => (
   cdO ((v98.2 : Int) != v100.2) (
    gdO (inR v98.2 v96.2.2.2.length) (
    gdO (inR v100.2 v96.2.2.2.length) (
    cdO (((bitO .and .u64 (gt v96.2.2.2 v98.2) (gt v96.2.2.2 v100.2)) : Int) == 0) (
     gdO (inR v100.2 v100.1.length) (
     again90 (v96.1, v96.2.1, v100.1.set v100.2.toNat v98.2, v96.2.2.2.set v98.2.toNat (bitO .or .u64 (gt v96.2.2.2 v98.2) (gt v96.2.2.2 v100.2)), wrapF .i64 (x_69 + 1))
     )
    ) (
     again90 (v96.1, v96.2.1, v100.1, v96.2.2.2, wrapF .i64 (x_69 + 1))
    )
    )
    )
   ) (
    again90 (v96.1, v96.2.1, v100.1, v96.2.2.2, wrapF .i64 (x_69 + 1))
   )
   )
   )
   )
   )
   )
  ) (
   some ((c_65, c_66, c_67, c_68))
  )
 )) (([] : List (api_Mark × Int)), [], [], [], 0)) fun o107 => (
  match o107 with
  | (c_86, c_87, c_88, c_89) => (
   some ((v63, c_86, c_87, c_88, c_89))
  ))
 )
 )
 )
 )

def slices_Clone_fiducial_api_Mark_fiducial_api_Mark_w_2 (n : Nat) (s : List api_Mark) : Option (List api_Mark) :=
 gdO (decide ((0 + s.length) * 16 ≤ 140737488355328)) (
 gdO (decide (0 + s.length ≤ 4611686018427387904)) (
 some (s)
 )
 )

def slices_SortFunc_fiducial_api_Mark_fiducial_api_Mark_w_of_track_compareMarks (n : Nat) (x' : List api_Mark) : Option (List api_Mark) :=
 gdO (decide (x'.length < 4611686018427387904)) (
 sortC (fun x y => track_compareMarks n x y) x'
 )

def fiducial_track_chains_find_w_2 (n : Nat) (c : List api_Tie) (c' : List (api_Mark × Int)) (c'' : List api_Mark) (c''' : List Int) (c'''' : List Int) (m' : api_Mark) : Option (List Int × Int) :=
 bdO (loopO (α := List Int × Int) (β := List Int × Int) n (fun again24 (c_17, k_18) => (
  gdO (inR k_18 c_17.length) (
  cdO (((gt c_17 k_18) : Int) != k_18) (
   gdO (inR (gt c_17 k_18) c_17.length) (
   again24 (c_17.set k_18.toNat (gt c_17 (gt c_17 k_18)), (gt (c_17.set k_18.toNat (gt c_17 (gt c_17 k_18))) k_18))
   )
  ) (
   some ((c_17, k_18))
  )
  )
 )) (c''', (getM 0 c' m'))) fun o28 => (
  match o28 with
  | (c_22, k_23) => (
   some ((c_22, k_23))
  ))

def track_Prune_w (n : Nat) (tracks : List (List api_Mark)) (least : Int) : Option (List (List api_Mark)) :=
 bdO (loopO (α := List (List api_Mark) × Int) (β := List (List api_Mark)) n (fun again36 (out_25, x_26) => (
  cdO (decide (x_26 < (tracks.length : Int))) (
   gdO (inR x_26 tracks.length) (
   cdO (decide (((gt tracks x_26).length : Int) ≥ least)) (
    bdO (slices_Clone_fiducial_api_Mark_fiducial_api_Mark_w_2 n (gt tracks x_26)) fun v41 => (
    gdO (decide ((out_25.length + 1) * 24 ≤ 140737488355328)) (
    gdO (decide (out_25.length + 1 ≤ 4611686018427387904)) (
    again36 (out_25 ++ [v41], wrapF .i64 (x_26 + 1))
    )
    )
    )
   ) (
    again36 (out_25, wrapF .i64 (x_26 + 1))
   )
   )
  ) (
   some (out_25)
  )
 )) ([], 0)) fun out_35 => (
  some (out_35)
 )

def fiducial_track_chains_tracks_w (n : Nat) (c : List api_Tie) (c' : List (api_Mark × Int)) (c'' : List api_Mark) (c''' : List Int) (c'''' : List Int) : Option (List Int × List (List api_Mark)) :=
 bdO (slices_Clone_fiducial_api_Mark_fiducial_api_Mark_w_2 n c'') fun v46 => (
 bdO (slices_SortFunc_fiducial_api_Mark_fiducial_api_Mark_w_of_track_compareMarks n v46) fun v48 => (
 gdO (decide (v48.length = v46.length)) (
 bdO (loopO (α := List Int × List (Int × Int) × List (List api_Mark) × Int) (β := List Int × List (List api_Mark)) n (fun again70 (c_51, at_52, all_53, x_54) => (
  cdO (decide (x_54 < (v46.length : Int))) (
   gdO (inR x_54 v48.length) (
   bdO (fiducial_track_chains_find_w_2 n c c' c'' c_51 c'''' (gt v48 x_54)) fun v73 => (
   cdO (!(hasM at_52 v73.2)) (
    gdO (decide ((all_53.length + 1) * 24 ≤ 140737488355328)) (
    gdO (decide (all_53.length + 1 ≤ 4611686018427387904)) (
    gdO (inR (all_53.length : Int) (all_53 ++ [([] : List api_Mark)]).length) (
    gdO (decide (((gt (all_53 ++ [([] : List api_Mark)]) (all_53.length : Int)).length + 1) * 16 ≤ 140737488355328)) (
    gdO (decide ((gt (all_53 ++ [([] : List api_Mark)]) (all_53.length : Int)).length + 1 ≤ 4611686018427387904)) (
    again70 (v73.1, putM at_52 v73.2 (all_53.length : Int), (all_53 ++ [([] : List api_Mark)]).set (all_53.length : Int).toNat ((gt (all_53 ++ [([] : List api_Mark)]) (all_53.length : Int)) ++ [(gt v48 x_54)]), wrapF .i64 (x_54 + 1))
    )
    )
    )
    )
    )
   ) (
    gdO (inR (getM 0 at_52 v73.2) all_53.length) (
    gdO (decide (((gt all_53 (getM 0 at_52 v73.2)).length + 1) * 16 ≤ 140737488355328)) (
    gdO (decide ((gt all_53 (getM 0 at_52 v73.2)).length + 1 ≤ 4611686018427387904)) (
    again70 (v73.1, at_52, all_53.set (getM 0 at_52 v73.2).toNat ((gt all_53 (getM 0 at_52 v73.2)) ++ [(gt v48 x_54)]), wrapF .i64 (x_54 + 1))
    )
    )
    )
   )
   )
   )
  ) (
   some ((c_51, all_53))
  )
 )) (c''', ([] : List (Int × Int)), [], 0)) fun o84 => (
  match o84 with
  | (c_68, all_69) => (
   bdO (track_Prune_w n all_69 2) fun v87 => (
   some ((c_68, v87))
   )
  ))
 )
 )
 )

def track_Chain_w (n : Nat) (ties : List api_Tie) : Option (List (List api_Mark) × Int) :=
 bdO (track_Check n ties) fun v10 => (
 cdO ((v10 : Int) != 0) (
  some (([], v10))
 ) (
  bdO (track_chained_w n ties) fun v13 => (
  bdO (fiducial_track_chains_tracks_w n v13.1 v13.2.1 v13.2.2.1 v13.2.2.2.1 v13.2.2.2.2) fun v15 => (
  some ((v15.2, 0))
  )
  )
 )
 )

def slices_Equal_fiducial_api_Mark_fiducial_api_Mark (n : Nat) (s1 : List api_Mark) (s2 : List api_Mark) : Option (Bool) :=
 cdO (((s1.length : Int) : Int) != (s2.length : Int)) (
  some (false)
 ) (
  bdO (loopO (α := Int) (β := Sum (Unit) (Bool)) n (fun again7 x_2 => (
   cdO (decide (x_2 < (s1.length : Int))) (
    gdO (inR x_2 s1.length) (
    gdO (inR x_2 s2.length) (
    cdO (!((((gt s1 x_2).Image : Int) == (gt s2 x_2).Image) && ((((gt s1 x_2).Feature : Int) == (gt s2 x_2).Feature) && true))) (
     some (Sum.inr (false))
    ) (
     again7 (wrapF .i64 (x_2 + 1))
    )
    )
    )
   ) (
    some (Sum.inl ())
   )
  )) 0) fun o12 => (
   match o12 with
   | .inl _ => (
    some (true)
   )
   | .inr (r0) => (
    some r0
   ))
 )

def fiduciallaw26_Same_1 (n : Nat) (x' : List api_Mark) (y : List api_Mark) : Option (Bool) :=
 bdO (slices_Equal_fiducial_api_Mark_fiducial_api_Mark n x' y) fun v1 => (
 some (v1)
 )

def slices_EqualFunc_fiducial_api_Mark_fiducial_api_Mark_fiducial_api_Mark_fiducial_api_Mark_of_fiduciallaw26_Same_1 (n : Nat) (s1 : List (List api_Mark)) (s2 : List (List api_Mark)) : Option (Bool) :=
 cdO (((s1.length : Int) : Int) != (s2.length : Int)) (
  some (false)
 ) (
  bdO (loopO (α := Int) (β := Sum (Unit) (Bool)) n (fun again9 x_2 => (
   cdO (decide (x_2 < (s1.length : Int))) (
    gdO (inR x_2 s1.length) (
    gdO (inR x_2 s2.length) (
    bdO (fiduciallaw26_Same_1 n (gt s1 x_2) (gt s2 x_2)) fun v13 => (
    cdO (!v13) (
     some (Sum.inr (false))
    ) (
     again9 (wrapF .i64 (x_2 + 1))
    )
    )
    )
    )
   ) (
    some (Sum.inl ())
   )
  )) 0) fun o16 => (
   match o16 with
   | .inl _ => (
    some (true)
   )
   | .inr (r0) => (
    some r0
   ))
 )

def fiduciallaw26_Same (n : Nat) (a : List (List api_Mark)) (b : List (List api_Mark)) : Option (Bool) :=
 bdO (slices_EqualFunc_fiducial_api_Mark_fiducial_api_Mark_fiducial_api_Mark_fiducial_api_Mark_of_fiduciallaw26_Same_1 n a b) fun v1 => (
 some (v1)
 )

def fiduciallaw26_TrackRenumbered (n : Nat) (l : List api_Tie) (by' : A2 Int) : Option (Bool) :=
 bdO (fiduciallaw26_known n) fun v1 => (
 cdO (!v1) (
  some (false)
 ) (
  cdO (decide ((l.length : Int) > 30)) (
   some (true)
  ) (
   bdO (track_Check n l) fun v6 => (
   cdO ((v6 : Int) != 0) (
    some (true)
   ) (
    bdO (slices_ContainsFunc_fiducial_api_Tie_fiducial_api_Tie_of_fiduciallaw26_TrackRenumbered_1 n l) fun v9 => (
    cdO v9 (
     some (true)
    ) (
     bdO (loopO (α := List api_Tie × Int) (β := List api_Tie) n (fun again50 (other_38, x_39) => (
      cdO (decide (x_39 < (l.length : Int))) (
       gdO (inR x_39 l.length) (
       bdO (fiduciallaw26_TrackRenumbered_2 n (gt l x_39).A by'.e0 by'.e1) fun v54 => (
       bdO (fiduciallaw26_TrackRenumbered_2 n (gt l x_39).B by'.e0 by'.e1) fun v56 => (
       gdO (decide ((other_38.length + 1) * 40 ≤ 140737488355328)) (
       gdO (decide (other_38.length + 1 ≤ 4611686018427387904)) (
       again50 (other_38 ++ [api_Tie.mk v54 v56 (gt l x_39).Cost], wrapF .i64 (x_39 + 1))
       )
       )
       )
       )
       )
      ) (
       some (other_38)
      )
     )) ([], 0)) fun other_49 => (
      bdO (track_Chain_w n l) fun v63 => (
      bdO (track_Chain_w n other_49) fun v65 => (
      bdO (loopO (α := List (List api_Mark) × Int) (β := List (List api_Mark)) n (fun again152 (a_124, x_125) => (
       cdO (decide (x_125 < (v63.1.length : Int))) (
        gdO (inR x_125 a_124.length) (
        bdO (slices_Clone_fiducial_api_Mark_fiducial_api_Mark_w_2 n (gt a_124 x_125)) fun v156 => (
        gdO (inR x_125 (a_124.set x_125.toNat v156).length) (
        bdO (loopO (α := List (List api_Mark) × Int) (β := List (List api_Mark)) n (fun again168 (a_159, x_160) => (
         cdO (decide (x_160 < ((gt (a_124.set x_125.toNat v156) x_125).length : Int))) (
          gdO (inR x_125 a_159.length) (
          gdO (inR x_160 (gt a_159 x_125).length) (
          bdO (fiduciallaw26_TrackRenumbered_2 n (gt (gt a_159 x_125) x_160) by'.e0 by'.e1) fun v173 => (
          again168 (a_159.set x_125.toNat ((gt a_159 x_125).set x_160.toNat v173), wrapF .i64 (x_160 + 1))
          )
          )
          )
         ) (
          some (a_159)
         )
        )) ((a_124.set x_125.toNat v156).set x_125.toNat (gt (a_124.set x_125.toNat v156) x_125), 0)) fun a_167 => (
         again152 (a_167, wrapF .i64 (x_125 + 1))
        )
        )
        )
        )
       ) (
        some (a_124)
       )
      )) (v63.1, 0)) fun a_151 => (
       cdO ((v63.2 : Int) == 0) (
        cdO ((v65.2 : Int) == 0) (
         bdO (fiduciallaw26_Same n a_151 v65.1) fun v183 => (
         some (v183)
         )
        ) (
         some (false)
        )
       ) (
        some (false)
       )
      )
      )
      )
     )
    )
    )
   )
   )
  )
 )
 )
end Go.L
