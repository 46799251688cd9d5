/- The program's functions compute what the plain Lean programs compute, part 2; printed by a program. -/
import Derived.Test.YtndmnfmpbcecaaaChkLP1
import Derived.Test.YtndmnfmpbcecaaaL0hegfhhij
import Derived.Test.YtndmnfmpbcecaaaKn26ifobjfci
import Derived.Test.YtndmnfmpbcecaaaDelLgjcenedo
import Derived.Test.YtndmnfmpbcecaaaSortLildbofhm
import Derived.Test.YtndmnfmpbcecaaaSortMjokciapd
import Derived.Test.YtndmnfmpbcecaaaSortTclclbppn
import Derived.Test.YtndmnfmpbcecaaaChecked
import Derived.KernelRfl
set_option linter.all false
set_option maxRecDepth 100000
set_option maxHeartbeats 4000000
namespace Go.L
open Go Go.Eng Go.Proofs
theorem fiduciallaw26_TrackChecks_ok (n : Nat) (l : List api_Tie) (tracks : List (List api_Mark)) (r : Bool) (hr : fiduciallaw26_TrackChecks n l tracks = some r) : FnOk Try.prog 9 [slT api_Tie.c l, slT (slC api_Mark.c) tracks] (aB r) := by
 unfold fiduciallaw26_TrackChecks at hr
 refine FnOk.bd G Try.func9 [.tmp 4] ?_
 unfold Try.f9
 simp only [Option.getD_some]
 refine .seq (.r4 G [0, 1] [] (.seq (.seq ?_)))
 obtain ⟨v1, hc2, hr⟩ := bd hr
 refine .g1 G (ok0 (fiduciallaw26_known_ok n v1 hc2)) (.ca cf0 (.mu 1 (.done (.nh [0, 1, 7] [] ?_))))
 refine .cd hr (fun hb4 hr => ?_) (fun hb4 hr => ?_)
 ·refine .seq (.ru G (.ret ?_))
  obtain rfl := oi hr
  exact FinQ.r1 [aB false]
 ·refine .skip (.seq (.seq ?_))
  obtain ⟨v5, hc6, hr⟩ := bd hr
  rcases Bool.eq_false_or_eq_true (!v5) with hb7 | hb7
  ·replace hr := cd_t hb7 hr
   refine .g1 G (ok0 (fiduciallaw26_few_ok n l v5 hc6)) (.mu 1 (.ca cf0 (.p0 (v := aB true) (eB hb7) (.mu 5 (.done (.nh [0, 1, 15] [] (.cT (by kernel_rfl) (.seq (.ru G (.ret ?_))))))))))
   obtain rfl := oi hr
   exact FinQ.r1 [aB true]
  ·replace hr := cd_f hb7 hr
   obtain ⟨v8, hc9, hr⟩ := bd hr
   refine .gn G (ca1 (ok0 (fiduciallaw26_few_ok n l v5 hc6)) (ca3 (ok0 (fiduciallaw26_short_ok n tracks v8 hc9)))) (.mu 1 (.ca cf0 (.p0 (v := aB false) (eB hb7) (.mu 2 (.ca (cfF cf0) (.mu 2 (.done (.nh [0, 1, 15] [] ?_))))))))
   refine .cd hr (fun hb11 hr => ?_) (fun hb11 hr => ?_)
   ·refine .seq (.ru G (.ret ?_))
    obtain rfl := oi hr
    exact FinQ.r1 [aB true]
   ·refine .skip (.seq ?_)
    obtain ⟨v12, hc13, hr⟩ := bd hr
    refine .g1 G (ok0 (fiduciallaw26_Checked_ok n l v12 hc13)) (.mu 1 (.ca cf0 (.mu 1 (.done (.nh [0, 1, 5] [] (.seq (.seq ?_)))))))
    rcases Bool.eq_false_or_eq_true ((v12 : Int) == 0) with hb14 | hb14
    ·replace hr := cd_t hb14 hr
     obtain ⟨v15, hc16, v17, hc18, hr⟩ := bd2 hr
     refine .gn G (ca1 (ok0 (fiduciallaw26_Chained_ok n l v15 hc16)) (ca3 (ok0 (fiduciallaw26_Same_ok n v15 tracks v17 hc18)))) (.mu 1 (.p0 (v := aB true) (eB hb14) (.mu 2 (.ca cf0 (.mu 1 (.ca (cfF cf0) (.mu 2 (.done (.nh [0, 1, 5, 26] [] ?_)))))))))
     refine .cd hr (fun hb19 hr => ?_) (fun hb19 hr => ?_)
     ·refine .r4 G [0, 1] [(5, aI64 12)] (.seq ?_)
      obtain ⟨v20, hc21, hr⟩ := bd hr
      refine .g1 G (ok0 (track_CheckTracks_ok n l tracks v20 hc21)) (.mu 2 (.ca cf0 (.mu 3 (.done (.ret ?_)))))
      obtain rfl := oi hr
      exact FinQ.r1 [aB ((v20 : Int) == 12)]
     ·refine .skip (.seq ?_)
      obtain ⟨v22, hc23, hr⟩ := bd hr
      refine .g1 G (ok0 (track_CheckTracks_ok n l tracks v22 hc23)) (.mu 2 (.ca cf0 (.mu 3 (.done (.ret ?_)))))
      obtain rfl := oi hr
      exact FinQ.r1 [aB ((v22 : Int) == v12)]
    ·replace hr := cd_f hb14 hr
     refine .r0 G (.mu 1 (.p0 (v := aB false) (eB hb14) (.mu 7 (.done (.nh [0, 1, 5, 26] [] (.cF (by kernel_rfl) (.skip (.seq ?_))))))))
     obtain ⟨v24, hc25, hr⟩ := bd hr
     refine .g1 G (ok0 (track_CheckTracks_ok n l tracks v24 hc25)) (.mu 2 (.ca cf0 (.mu 3 (.done (.ret ?_)))))
     obtain rfl := oi hr
     exact FinQ.r1 [aB ((v24 : Int) == v12)]
end Go.L
