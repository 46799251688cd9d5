/- The program's functions compute what the plain Lean programs compute, part 4; printed by a program. -/
import Derived.Test.YtlajgmapmocpbaaSoundLP3
import Derived.Test.YtlajgmapmocpbaaL0b
import Derived.Test.YtlajgmapmocpbaaChecked
import Derived.KernelRfl
set_option linter.unusedVariables false
set_option linter.unusedSimpArgs false
set_option maxRecDepth 100000
namespace Go.L
open Go Go.Eng Go.Proofs
theorem fiducialref01_Divide_ok (n : Nat) (x' : api_Int) (y : api_Int) (r : api_Int × api_Int × Int) (hr : fiducialref01_Divide n x' y = some r) : FnOk Try.prog 100 [.agg [.at (.bool x'.Negative), slT (iC .u32) x'.Groups], .agg [.at (.bool y.Negative), slT (iC .u32) y.Groups]] (.tup [.agg [.at (.bool r.1.Negative), slT (iC .u32) r.1.Groups], .agg [.at (.bool r.2.1.Negative), slT (iC .u32) r.2.1.Groups], .at (.int .i64 r.2.2)]) := by
 unfold fiducialref01_Divide at hr
 refine FnOk.body fine Try.func100 (c := (Try.f100.body).getD .skip) rfl (s := mkS 54 0 [(0, .agg [aB x'.Negative, sU32 x'.Groups]), (1, .agg [aB y.Negative, sU32 y.Groups])]) (by kernel_rfl) (rs := [.cell 4 46, .cell 5 46, .tmp 6]) rfl ?_
 unfold Try.f100
 simp only [Option.getD_some]
 refine CQ.seq ?_
 refine CQ.r0 fine ?_
 refine EVO.e1 (.hp 0 0) [(0, .own [aB x'.Negative, sU32 x'.Groups])] ?_
 refine EVO.e1 (.hp 1 0) [(1, .own [aB y.Negative, sU32 y.Groups])] ?_
 refine EVO.e1 (.hp 2 0) [(2, .own [aB false, .at (.slice none 0 0)])] ?_
 refine EVO.e1 (.hp 3 0) [(3, .own [aB false, .at (.slice none 0 0)])] ?_
 refine EVO.p1 (aI64 0) ?_
 refine EVO.done ?_
 refine CQ.n1 [2, 3, 4, 5] (mkS 54 0 [(2, .hp 0 0), (3, .hp 1 0), (4, .hp 2 0), (5, .hp 3 0)]) [.own [aB x'.Negative, sU32 x'.Groups], .own [aB y.Negative, sU32 y.Groups], .own [aB false, .at (.slice none 0 0)], .own [aB false, .at (.slice none 0 0)]] ?_
 refine CQ.seq ?_
 replace hr := bd hr; obtain ⟨v1, hc2, hr⟩ := hr
 replace hr := bd hr; obtain ⟨v3, hc4, hr⟩ := hr
 refine CQ.regionT fine (callOf_ok [{ f := 65, args := [.agg [aB x'.Negative, sU32 x'.Groups]], H := [.own [aB x'.Negative, sU32 x'.Groups], .own [aB y.Negative, sU32 y.Groups], .own [aB false, .at (.slice none 0 0)], .own [aB false, .at (.slice none 0 0)]], r := .loc (.agg [aB v1.Negative, sU32 v1.Groups]) [] [] 0 : CE }, { f := 65, args := [.agg [aB y.Negative, sU32 y.Groups]], H := [.own [aB x'.Negative, sU32 x'.Groups], .own [aB y.Negative, sU32 y.Groups], .own [aB false, .at (.slice none 0 0)], .own [aB false, .at (.slice none 0 0)]], r := .loc (.agg [aB v3.Negative, sU32 v3.Groups]) [] [] 0 : CE }] (List.forall_mem_cons.2 ⟨(callOk_ref (l := []) (args' := [.agg [aB x'.Negative, sU32 x'.Groups]]) (SnL.cons (Sn.pure rfl) SnL.nil) (fiducialref01_Value_ok n x' v1 hc2)), (List.forall_mem_cons.2 ⟨(callOk_ref (l := []) (args' := [.agg [aB y.Negative, sU32 y.Groups]]) (SnL.cons (Sn.pure rfl) SnL.nil) (fiducialref01_Value_ok n y v3 hc4)), ce0⟩)⟩)) ?_
 refine EVT.p1 (.agg [aB x'.Negative, sU32 x'.Groups]) ?_
 refine EVT.cal (by kernel_rfl) (by kernel_rfl) (callOf_at (by kernel_rfl)) (by kernel_rfl) ?_
 refine EVT.p1 (.agg [aB y.Negative, sU32 y.Groups]) ?_
 refine EVT.cal (by kernel_rfl) (by kernel_rfl) (callOf_skip (fun _ h => by obtain e0 := fiducialref01_Value_inj h; rw [show v3 = v1 from Option.some.inj (hc4.symm.trans ((show fiducialref01_Value n y = fiducialref01_Value n x' from (congr rfl e0)).trans hc2))]) (callOf_at (by kernel_rfl))) (by kernel_rfl) ?_
 refine EVT.e1 (.unk) [(0, .own [aB v1.Negative, sU32 v1.Groups])] ?_
 refine EVT.e1 (.unk) [(1, .own [aB v3.Negative, sU32 v3.Groups])] ?_
 refine EVT.done ⟨by kernel_rfl, ?_⟩
 refine CQ.n1 [2, 3, 4, 5] (mkS 54 0 [(2, .hp 0 0), (3, .hp 1 0), (4, .hp 2 0), (5, .hp 3 0)]) [.own [aB v1.Negative, sU32 v1.Groups], .own [aB v3.Negative, sU32 v3.Groups], .own [aB false, .at (.slice none 0 0)], .own [aB false, .at (.slice none 0 0)]] ?_
 refine CQ.seq ?_
 refine CQ.seq ?_
 refine CQ.r0 fine ?_
 refine EVO.p1 (.hp 1 1) ?_
 refine EVO.p1 (sU32 v3.Groups) ?_
 refine EVO.p1 (aI64 (v3.Groups.length : Int)) ?_
 refine EVO.p1 (aB (((v3.Groups.length : Int) : Int) == 0)) ?_
 refine EVO.done ?_
 refine CQ.n1 [2, 3, 4, 5, 17] (mkS 54 0 [(2, .hp 0 0), (3, .hp 1 0), (4, .hp 2 0), (5, .hp 3 0), (17, aB (((v3.Groups.length : Int) : Int) == 0))]) [.own [aB v1.Negative, sU32 v1.Groups], .own [aB v3.Negative, sU32 v3.Groups], .own [aB false, .at (.slice none 0 0)], .own [aB false, .at (.slice none 0 0)]] ?_
 refine CQ.cond (t := ((v3.Groups.length : Int) : Int) == 0) (by kernel_rfl) (fun hb5 => ?_) (fun hb5 => ?_)
 ·replace hr := cd_t hb5 hr
  refine CQ.seq ?_
  refine CQ.r0 fine ?_
  refine EVO.p1 (.agg [aB false, .at (.slice none 0 0)]) ?_
  refine EVO.p1 (.agg [aB false, .at (.slice none 0 0)]) ?_
  refine EVO.e1 (.unk) [(2, .own [aB false, .at (.slice none 0 0)])] ?_
  refine EVO.e1 (.unk) [(3, .own [aB false, .at (.slice none 0 0)])] ?_
  refine EVO.p1 (aI64 14) ?_
  refine EVO.done ?_
  refine CQ.ret ?_
  obtain rfl := Option.some.inj hr
  exact FinQ.ret (vs := [.agg [aB false, .at (.slice none 0 0)], .agg [aB false, .at (.slice none 0 0)], aI64 14]) (by kernel_rfl) (Sn.tup (SnL.cons (Sn.agg (SnL.cons (Sn.pure rfl) (SnL.cons Sn.nilsl SnL.nil))) (SnL.cons (Sn.agg (SnL.cons (Sn.pure rfl) (SnL.cons Sn.nilsl SnL.nil))) (SnL.cons (Sn.pure rfl) SnL.nil))))
 ·replace hr := cd_f hb5 hr
  refine CQ.skip ?_
  refine CQ.seq ?_
  replace hr := bd hr; obtain ⟨v6, hc7, hr⟩ := hr
  refine CQ.region fine (callOf_1 67 [sU32 v1.Groups, sU32 v3.Groups] [.own [aB v1.Negative, sU32 v1.Groups], .own [aB v3.Negative, sU32 v3.Groups], .own [aB false, .at (.slice none 0 0)], .own [aB false, .at (.slice none 0 0)]] (.loc (.tup [sU32 v6.1, sU32 v6.2]) [] [] 0) (callOk_ref (l := []) (args' := [sU32 v1.Groups, sU32 v3.Groups]) (SnL.cons (Sn.pure rfl) (SnL.cons (Sn.pure rfl) SnL.nil)) (fiducialref01_parts_ok n v1.Groups v3.Groups v6 hc7))) ?_
  refine EVO.p1 (.hp 0 1) ?_
  refine EVO.p1 (sU32 v1.Groups) ?_
  refine EVO.p1 (.hp 1 1) ?_
  refine EVO.p1 (sU32 v3.Groups) ?_
  refine EVO.c0 (by kernel_rfl) (callOf_at (by kernel_rfl)) ?_
  refine EVO.p1 (.tup [sU32 v6.1, sU32 v6.2]) ?_
  refine EVO.p1 (sU32 v6.1) ?_
  refine EVO.p1 (sU32 v6.2) ?_
  refine EVO.p1 (sU32 v6.1) ?_
  refine EVO.p1 (sU32 v6.2) ?_
  refine EVO.done ?_
  refine CQ.n1 [2, 3, 4, 5, 7, 8] (mkS 54 0 [(2, .hp 0 0), (3, .hp 1 0), (4, .hp 2 0), (5, .hp 3 0), (7, sU32 v6.1), (8, sU32 v6.2)]) [.own [aB v1.Negative, sU32 v1.Groups], .own [aB v3.Negative, sU32 v3.Groups], .own [aB false, .at (.slice none 0 0)], .own [aB false, .at (.slice none 0 0)]] ?_
  refine CQ.seq ?_
  replace hr := bd hr; obtain ⟨v8, hc9, hr⟩ := hr
  refine CQ.region fine (callOf_1 68 [aB (v1.Negative != v3.Negative), sU32 v6.1] [.own [aB v1.Negative, sU32 v1.Groups], .own [aB v3.Negative, sU32 v3.Groups], .own [aB false, .at (.slice none 0 0)], .own [aB false, .at (.slice none 0 0)]] (.loc (.agg [aB v8.Negative, sU32 v8.Groups]) [] [] 0) (callOk_ref (l := []) (args' := [aB (v1.Negative != v3.Negative), sU32 v6.1]) (SnL.cons (Sn.pure rfl) (SnL.cons (Sn.pure rfl) SnL.nil)) (fiducialref01_made_ok n (v1.Negative != v3.Negative) v6.1 v8 hc9))) ?_
  refine EVO.p1 (.hp 0 0) ?_
  refine EVO.p1 (aB v1.Negative) ?_
  refine EVO.p1 (.hp 1 0) ?_
  refine EVO.p1 (aB v3.Negative) ?_
  refine EVO.p1 (aB (v1.Negative != v3.Negative)) ?_
  refine EVO.p1 (sU32 v6.1) ?_
  refine EVO.c0 (by kernel_rfl) (callOf_at (by kernel_rfl)) ?_
  refine EVO.e1 (.hp 4 0) [(4, .own [aB false, .at (.slice none 0 0)])] ?_
  refine EVO.e1 (.unk) [(4, .own [aB v8.Negative, sU32 v8.Groups])] ?_
  refine EVO.done ?_
  refine CQ.n1 [2, 3, 4, 5, 8, 9] (mkS 54 0 [(2, .hp 0 0), (3, .hp 1 0), (4, .hp 2 0), (5, .hp 3 0), (8, sU32 v6.2), (9, .hp 4 0)]) [.own [aB v1.Negative, sU32 v1.Groups], .own [aB v3.Negative, sU32 v3.Groups], .own [aB false, .at (.slice none 0 0)], .own [aB false, .at (.slice none 0 0)], .own [aB v8.Negative, sU32 v8.Groups]] ?_
  refine CQ.seq ?_
  refine CQ.seq ?_
  rcases Bool.eq_false_or_eq_true (v1.Negative != v3.Negative) with hb10 | hb10
  ·replace hr := cd_t hb10 hr
   refine CQ.r0 fine ?_
   refine EVO.p1 (.hp 0 0) ?_
   refine EVO.p1 (aB v1.Negative) ?_
   refine EVO.p1 (.hp 1 0) ?_
   refine EVO.p1 (aB v3.Negative) ?_
   refine EVO.p0 (v := aB true) (Eq.trans (b := some (.pure (aB (v1.Negative != v3.Negative)))) (by kernel_rfl) (by rw [hb10])) ?_
   refine EVO.p1 (aB true) ?_
   refine EVO.q1 (sU32 v6.2) ?_
   refine EVO.q1 (aI64 (v6.2.length : Int)) ?_
   refine EVO.q1 (aB (decide ((v6.2.length : Int) > 0))) ?_
   refine EVO.p1 (aB (decide ((v6.2.length : Int) > 0))) ?_
   refine EVO.done ?_
   refine CQ.n1 [2, 3, 4, 5, 9, 44] (mkS 54 0 [(2, .hp 0 0), (3, .hp 1 0), (4, .hp 2 0), (5, .hp 3 0), (9, .hp 4 0), (44, aB (decide ((v6.2.length : Int) > 0)))]) [.own [aB v1.Negative, sU32 v1.Groups], .own [aB v3.Negative, sU32 v3.Groups], .own [aB false, .at (.slice none 0 0)], .own [aB false, .at (.slice none 0 0)], .own [aB v8.Negative, sU32 v8.Groups]] ?_
   refine CQ.cond (t := decide ((v6.2.length : Int) > 0)) (by kernel_rfl) (fun hb11 => ?_) (fun hb11 => ?_)
   ·replace hr := cd_t hb11 hr
    replace hr := bd hr; obtain ⟨v12, hc13, hr⟩ := hr
    replace hr := bd hr; obtain ⟨v14, hc15, hr⟩ := hr
    refine CQ.regionT fine (callOf_ok [{ f := 54, args := [aI64 1], H := [.own [aB v1.Negative, sU32 v1.Groups], .own [aB v3.Negative, sU32 v3.Groups], .own [aB false, .at (.slice none 0 0)], .own [aB false, .at (.slice none 0 0)], .own [aB v8.Negative, sU32 v8.Groups]], r := .loc (.agg [aB v12.Negative, sU32 v12.Groups]) [] [] 0 : CE }, { f := 66, args := [.agg [aB v8.Negative, sU32 v8.Groups], .agg [aB v12.Negative, sU32 v12.Groups]], H := [.own [aB v1.Negative, sU32 v1.Groups], .own [aB v3.Negative, sU32 v3.Groups], .own [aB false, .at (.slice none 0 0)], .own [aB false, .at (.slice none 0 0)], .own [aB v8.Negative, sU32 v8.Groups]], r := .loc (.agg [aB v14.Negative, sU32 v14.Groups]) [] [] 0 : CE }] (List.forall_mem_cons.2 ⟨(callOk_ref (l := []) (args' := [aI64 1]) (SnL.cons (Sn.pure rfl) SnL.nil) (fiducialref01_Of_ok n 1 v12 hc13)), (List.forall_mem_cons.2 ⟨(callOk_ref (l := []) (args' := [.agg [aB v8.Negative, sU32 v8.Groups], .agg [aB v12.Negative, sU32 v12.Groups]]) (SnL.cons (Sn.pure rfl) (SnL.cons (Sn.pure rfl) SnL.nil)) (fiducialref01_Sub_ok n v8 v12 v14 hc15)), ce0⟩)⟩)) ?_
    refine EVT.p1 (.agg [aB v8.Negative, sU32 v8.Groups]) ?_
    refine EVT.cal (by kernel_rfl) (by kernel_rfl) (callOf_at (by kernel_rfl)) (by kernel_rfl) ?_
    refine EVT.cal (by kernel_rfl) (by kernel_rfl) (callOf_skip (fun h _ => absurd (show (66 : Nat) = 54 from h) (by decide)) (callOf_at (by kernel_rfl))) (by kernel_rfl) ?_
    refine EVT.e1 (.unk) [(4, .own [aB v14.Negative, sU32 v14.Groups])] ?_
    refine EVT.done ⟨by kernel_rfl, ?_⟩
    refine CQ.n1 [2, 3, 4, 5, 9] (mkS 54 0 [(2, .hp 0 0), (3, .hp 1 0), (4, .hp 2 0), (5, .hp 3 0), (9, .hp 4 0)]) [.own [aB v1.Negative, sU32 v1.Groups], .own [aB v3.Negative, sU32 v3.Groups], .own [aB false, .at (.slice none 0 0)], .own [aB false, .at (.slice none 0 0)], .own [aB v14.Negative, sU32 v14.Groups]] ?_
    refine CQ.seq ?_
    replace hr := bd hr; obtain ⟨v16, hc17, hr⟩ := hr
    replace hr := bd hr; obtain ⟨v18, hc19, hr⟩ := hr
    refine CQ.regionT fine (callOf_ok [{ f := 90, args := [.agg [aB v14.Negative, sU32 v14.Groups], .agg [aB v3.Negative, sU32 v3.Groups]], H := [.own [aB v1.Negative, sU32 v1.Groups], .own [aB v3.Negative, sU32 v3.Groups], .own [aB false, .at (.slice none 0 0)], .own [aB false, .at (.slice none 0 0)], .own [aB v14.Negative, sU32 v14.Groups]], r := .loc (.agg [aB v16.Negative, sU32 v16.Groups]) [] [] 0 : CE }, { f := 66, args := [.agg [aB v1.Negative, sU32 v1.Groups], .agg [aB v16.Negative, sU32 v16.Groups]], H := [.own [aB v1.Negative, sU32 v1.Groups], .own [aB v3.Negative, sU32 v3.Groups], .own [aB false, .at (.slice none 0 0)], .own [aB false, .at (.slice none 0 0)], .own [aB v14.Negative, sU32 v14.Groups]], r := .loc (.agg [aB v18.Negative, sU32 v18.Groups]) [] [] 0 : CE }] (List.forall_mem_cons.2 ⟨(callOk_ref (l := []) (args' := [.agg [aB v14.Negative, sU32 v14.Groups], .agg [aB v3.Negative, sU32 v3.Groups]]) (SnL.cons (Sn.pure rfl) (SnL.cons (Sn.pure rfl) SnL.nil)) (fiducialref01_Mul_ok n v14 v3 v16 hc17)), (List.forall_mem_cons.2 ⟨(callOk_ref (l := []) (args' := [.agg [aB v1.Negative, sU32 v1.Groups], .agg [aB v16.Negative, sU32 v16.Groups]]) (SnL.cons (Sn.pure rfl) (SnL.cons (Sn.pure rfl) SnL.nil)) (fiducialref01_Sub_ok n v1 v16 v18 hc19)), ce0⟩)⟩)) ?_
    refine EVT.p1 (.agg [aB v14.Negative, sU32 v14.Groups]) ?_
    refine EVT.p1 (.agg [aB v1.Negative, sU32 v1.Groups]) ?_
    refine EVT.p1 (.agg [aB v14.Negative, sU32 v14.Groups]) ?_
    refine EVT.p1 (.agg [aB v3.Negative, sU32 v3.Groups]) ?_
    refine EVT.cal (by kernel_rfl) (by kernel_rfl) (callOf_at (by kernel_rfl)) (by kernel_rfl) ?_
    refine EVT.cal (by kernel_rfl) (by kernel_rfl) (callOf_skip (fun h _ => absurd (show (66 : Nat) = 90 from h) (by decide)) (callOf_at (by kernel_rfl))) (by kernel_rfl) ?_
    refine EVT.e1 (.unk) [(2, .own [aB v14.Negative, sU32 v14.Groups])] ?_
    refine EVT.e1 (.unk) [(3, .own [aB v18.Negative, sU32 v18.Groups])] ?_
    refine EVT.p1 (aI64 0) ?_
    refine EVT.done ⟨by kernel_rfl, ?_⟩
    refine CQ.ret ?_
    obtain rfl := Option.some.inj hr
    exact FinQ.ret (vs := [.agg [aB v14.Negative, sU32 v14.Groups], .agg [aB v18.Negative, sU32 v18.Groups], aI64 0]) (by kernel_rfl) (Sn.tup (SnL.cons (Sn.pure rfl) (SnL.cons (Sn.pure rfl) (SnL.cons (Sn.pure rfl) SnL.nil))))
   ·replace hr := cd_f hb11 hr
    refine CQ.skip ?_
    refine CQ.seq ?_
    replace hr := bd hr; obtain ⟨v20, hc21, hr⟩ := hr
    replace hr := bd hr; obtain ⟨v22, hc23, hr⟩ := hr
    refine CQ.regionT fine (callOf_ok [{ f := 90, args := [.agg [aB v8.Negative, sU32 v8.Groups], .agg [aB v3.Negative, sU32 v3.Groups]], H := [.own [aB v1.Negative, sU32 v1.Groups], .own [aB v3.Negative, sU32 v3.Groups], .own [aB false, .at (.slice none 0 0)], .own [aB false, .at (.slice none 0 0)], .own [aB v8.Negative, sU32 v8.Groups]], r := .loc (.agg [aB v20.Negative, sU32 v20.Groups]) [] [] 0 : CE }, { f := 66, args := [.agg [aB v1.Negative, sU32 v1.Groups], .agg [aB v20.Negative, sU32 v20.Groups]], H := [.own [aB v1.Negative, sU32 v1.Groups], .own [aB v3.Negative, sU32 v3.Groups], .own [aB false, .at (.slice none 0 0)], .own [aB false, .at (.slice none 0 0)], .own [aB v8.Negative, sU32 v8.Groups]], r := .loc (.agg [aB v22.Negative, sU32 v22.Groups]) [] [] 0 : CE }] (List.forall_mem_cons.2 ⟨(callOk_ref (l := []) (args' := [.agg [aB v8.Negative, sU32 v8.Groups], .agg [aB v3.Negative, sU32 v3.Groups]]) (SnL.cons (Sn.pure rfl) (SnL.cons (Sn.pure rfl) SnL.nil)) (fiducialref01_Mul_ok n v8 v3 v20 hc21)), (List.forall_mem_cons.2 ⟨(callOk_ref (l := []) (args' := [.agg [aB v1.Negative, sU32 v1.Groups], .agg [aB v20.Negative, sU32 v20.Groups]]) (SnL.cons (Sn.pure rfl) (SnL.cons (Sn.pure rfl) SnL.nil)) (fiducialref01_Sub_ok n v1 v20 v22 hc23)), ce0⟩)⟩)) ?_
    refine EVT.p1 (.agg [aB v8.Negative, sU32 v8.Groups]) ?_
    refine EVT.p1 (.agg [aB v1.Negative, sU32 v1.Groups]) ?_
    refine EVT.p1 (.agg [aB v8.Negative, sU32 v8.Groups]) ?_
    refine EVT.p1 (.agg [aB v3.Negative, sU32 v3.Groups]) ?_
    refine EVT.cal (by kernel_rfl) (by kernel_rfl) (callOf_at (by kernel_rfl)) (by kernel_rfl) ?_
    refine EVT.cal (by kernel_rfl) (by kernel_rfl) (callOf_skip (fun h _ => absurd (show (66 : Nat) = 90 from h) (by decide)) (callOf_at (by kernel_rfl))) (by kernel_rfl) ?_
    refine EVT.e1 (.unk) [(2, .own [aB v8.Negative, sU32 v8.Groups])] ?_
    refine EVT.e1 (.unk) [(3, .own [aB v22.Negative, sU32 v22.Groups])] ?_
    refine EVT.p1 (aI64 0) ?_
    refine EVT.done ⟨by kernel_rfl, ?_⟩
    refine CQ.ret ?_
    obtain rfl := Option.some.inj hr
    exact FinQ.ret (vs := [.agg [aB v8.Negative, sU32 v8.Groups], .agg [aB v22.Negative, sU32 v22.Groups], aI64 0]) (by kernel_rfl) (Sn.tup (SnL.cons (Sn.pure rfl) (SnL.cons (Sn.pure rfl) (SnL.cons (Sn.pure rfl) SnL.nil))))
  ·replace hr := cd_f hb10 hr
   refine CQ.r0 fine ?_
   refine EVO.p1 (.hp 0 0) ?_
   refine EVO.p1 (aB v1.Negative) ?_
   refine EVO.p1 (.hp 1 0) ?_
   refine EVO.p1 (aB v3.Negative) ?_
   refine EVO.p0 (v := aB false) (Eq.trans (b := some (.pure (aB (v1.Negative != v3.Negative)))) (by kernel_rfl) (by rw [hb10])) ?_
   refine EVO.p1 (aB false) ?_
   refine EVO.s1 ?_
   refine EVO.s1 ?_
   refine EVO.s1 ?_
   refine EVO.p1 (aB false) ?_
   refine EVO.done ?_
   refine CQ.n1 [2, 3, 4, 5, 9, 44] (mkS 54 0 [(2, .hp 0 0), (3, .hp 1 0), (4, .hp 2 0), (5, .hp 3 0), (9, .hp 4 0), (44, aB false)]) [.own [aB v1.Negative, sU32 v1.Groups], .own [aB v3.Negative, sU32 v3.Groups], .own [aB false, .at (.slice none 0 0)], .own [aB false, .at (.slice none 0 0)], .own [aB v8.Negative, sU32 v8.Groups]] ?_
   refine CQ.cF (by kernel_rfl) ?_
   refine CQ.skip ?_
   refine CQ.seq ?_
   replace hr := bd hr; obtain ⟨v24, hc25, hr⟩ := hr
   replace hr := bd hr; obtain ⟨v26, hc27, hr⟩ := hr
   refine CQ.regionT fine (callOf_ok [{ f := 90, args := [.agg [aB v8.Negative, sU32 v8.Groups], .agg [aB v3.Negative, sU32 v3.Groups]], H := [.own [aB v1.Negative, sU32 v1.Groups], .own [aB v3.Negative, sU32 v3.Groups], .own [aB false, .at (.slice none 0 0)], .own [aB false, .at (.slice none 0 0)], .own [aB v8.Negative, sU32 v8.Groups]], r := .loc (.agg [aB v24.Negative, sU32 v24.Groups]) [] [] 0 : CE }, { f := 66, args := [.agg [aB v1.Negative, sU32 v1.Groups], .agg [aB v24.Negative, sU32 v24.Groups]], H := [.own [aB v1.Negative, sU32 v1.Groups], .own [aB v3.Negative, sU32 v3.Groups], .own [aB false, .at (.slice none 0 0)], .own [aB false, .at (.slice none 0 0)], .own [aB v8.Negative, sU32 v8.Groups]], r := .loc (.agg [aB v26.Negative, sU32 v26.Groups]) [] [] 0 : CE }] (List.forall_mem_cons.2 ⟨(callOk_ref (l := []) (args' := [.agg [aB v8.Negative, sU32 v8.Groups], .agg [aB v3.Negative, sU32 v3.Groups]]) (SnL.cons (Sn.pure rfl) (SnL.cons (Sn.pure rfl) SnL.nil)) (fiducialref01_Mul_ok n v8 v3 v24 hc25)), (List.forall_mem_cons.2 ⟨(callOk_ref (l := []) (args' := [.agg [aB v1.Negative, sU32 v1.Groups], .agg [aB v24.Negative, sU32 v24.Groups]]) (SnL.cons (Sn.pure rfl) (SnL.cons (Sn.pure rfl) SnL.nil)) (fiducialref01_Sub_ok n v1 v24 v26 hc27)), ce0⟩)⟩)) ?_
   refine EVT.p1 (.agg [aB v8.Negative, sU32 v8.Groups]) ?_
   refine EVT.p1 (.agg [aB v1.Negative, sU32 v1.Groups]) ?_
   refine EVT.p1 (.agg [aB v8.Negative, sU32 v8.Groups]) ?_
   refine EVT.p1 (.agg [aB v3.Negative, sU32 v3.Groups]) ?_
   refine EVT.cal (by kernel_rfl) (by kernel_rfl) (callOf_at (by kernel_rfl)) (by kernel_rfl) ?_
   refine EVT.cal (by kernel_rfl) (by kernel_rfl) (callOf_skip (fun h _ => absurd (show (66 : Nat) = 90 from h) (by decide)) (callOf_at (by kernel_rfl))) (by kernel_rfl) ?_
   refine EVT.e1 (.unk) [(2, .own [aB v8.Negative, sU32 v8.Groups])] ?_
   refine EVT.e1 (.unk) [(3, .own [aB v26.Negative, sU32 v26.Groups])] ?_
   refine EVT.p1 (aI64 0) ?_
   refine EVT.done ⟨by kernel_rfl, ?_⟩
   refine CQ.ret ?_
   obtain rfl := Option.some.inj hr
   exact FinQ.ret (vs := [.agg [aB v8.Negative, sU32 v8.Groups], .agg [aB v26.Negative, sU32 v26.Groups], aI64 0]) (by kernel_rfl) (Sn.tup (SnL.cons (Sn.pure rfl) (SnL.cons (Sn.pure rfl) (SnL.cons (Sn.pure rfl) SnL.nil))))

theorem fiducialref02_reduced_ok (n : Nat) (num : api_Int) (den : api_Int) (r : api_Rat) (hr : fiducialref02_reduced n num den = some r) : FnOk Try.prog 89 [.agg [.at (.bool num.Negative), slT (iC .u32) num.Groups], .agg [.at (.bool den.Negative), slT (iC .u32) den.Groups]] (.agg [.at (.bool r.Num.Negative), slT (iC .u32) r.Num.Groups, .at (.bool r.Den.Negative), slT (iC .u32) r.Den.Groups]) := by
 unfold fiducialref02_reduced at hr
 refine FnOk.body fine Try.func89 (c := (Try.f89.body).getD .skip) rfl (s := mkS 37 0 [(0, .agg [aB num.Negative, sU32 num.Groups]), (1, .agg [aB den.Negative, sU32 den.Groups])]) (by kernel_rfl) (rs := [.cell 4 48]) rfl ?_
 unfold Try.f89
 simp only [Option.getD_some]
 refine CQ.seq ?_
 refine CQ.r0 fine ?_
 refine EVO.e1 (.hp 0 0) [(0, .own [aB num.Negative, sU32 num.Groups])] ?_
 refine EVO.e1 (.hp 1 0) [(1, .own [aB den.Negative, sU32 den.Groups])] ?_
 refine EVO.e1 (.hp 2 0) [(2, .own [aB false, .at (.slice none 0 0), aB false, .at (.slice none 0 0)])] ?_
 refine EVO.done ?_
 refine CQ.n1 [2, 3, 4] (mkS 37 0 [(2, .hp 0 0), (3, .hp 1 0), (4, .hp 2 0)]) [.own [aB num.Negative, sU32 num.Groups], .own [aB den.Negative, sU32 den.Groups], .own [aB false, .at (.slice none 0 0), aB false, .at (.slice none 0 0)]] ?_
 refine CQ.seq ?_
 replace hr := bd hr; obtain ⟨v1, hc2, hr⟩ := hr
 refine CQ.region fine (callOf_1 51 [.agg [aB num.Negative, sU32 num.Groups], .agg [aB den.Negative, sU32 den.Groups]] [.own [aB num.Negative, sU32 num.Groups], .own [aB den.Negative, sU32 den.Groups], .own [aB false, .at (.slice none 0 0), aB false, .at (.slice none 0 0)]] (.loc (.agg [aB v1.Negative, sU32 v1.Groups]) [] [] 0) (callOk_ref (l := []) (args' := [.agg [aB num.Negative, sU32 num.Groups], .agg [aB den.Negative, sU32 den.Groups]]) (SnL.cons (Sn.pure rfl) (SnL.cons (Sn.pure rfl) SnL.nil)) (fiducialref01_Gcd_ok n num den v1 hc2))) ?_
 refine EVO.p1 (.agg [aB num.Negative, sU32 num.Groups]) ?_
 refine EVO.p1 (.agg [aB den.Negative, sU32 den.Groups]) ?_
 refine EVO.c0 (by kernel_rfl) (callOf_at (by kernel_rfl)) ?_
 refine EVO.e1 (.hp 3 0) [(3, .own [aB false, .at (.slice none 0 0)])] ?_
 refine EVO.e1 (.unk) [(3, .own [aB v1.Negative, sU32 v1.Groups])] ?_
 refine EVO.done ?_
 refine CQ.n1 [2, 3, 4, 5] (mkS 37 0 [(2, .hp 0 0), (3, .hp 1 0), (4, .hp 2 0), (5, .hp 3 0)]) [.own [aB num.Negative, sU32 num.Groups], .own [aB den.Negative, sU32 den.Groups], .own [aB false, .at (.slice none 0 0), aB false, .at (.slice none 0 0)], .own [aB v1.Negative, sU32 v1.Groups]] ?_
 refine CQ.seq ?_
 refine CQ.seq ?_
 replace hr := bd hr; obtain ⟨v3, hc4, hr⟩ := hr
 refine CQ.region fine (callOf_1 49 [.agg [aB den.Negative, sU32 den.Groups]] [.own [aB num.Negative, sU32 num.Groups], .own [aB den.Negative, sU32 den.Groups], .own [aB false, .at (.slice none 0 0), aB false, .at (.slice none 0 0)], .own [aB v1.Negative, sU32 v1.Groups]] (.loc (aI64 v3) [] [] 0) (callOk_val (l := []) (args' := [.agg [aB den.Negative, sU32 den.Groups]]) rfl (SnL.cons (Sn.pure rfl) SnL.nil) (fiducialref01_Sign_ok n den v3 hc4))) ?_
 refine EVO.p1 (.agg [aB den.Negative, sU32 den.Groups]) ?_
 refine EVO.c0 (by kernel_rfl) (callOf_at (by kernel_rfl)) ?_
 refine EVO.p1 (aB (decide (v3 < 0))) ?_
 refine EVO.done ?_
 refine CQ.n1 [2, 3, 4, 5, 17] (mkS 37 0 [(2, .hp 0 0), (3, .hp 1 0), (4, .hp 2 0), (5, .hp 3 0), (17, aB (decide (v3 < 0)))]) [.own [aB num.Negative, sU32 num.Groups], .own [aB den.Negative, sU32 den.Groups], .own [aB false, .at (.slice none 0 0), aB false, .at (.slice none 0 0)], .own [aB v1.Negative, sU32 v1.Groups]] ?_
 refine CQ.cond (t := decide (v3 < 0)) (by kernel_rfl) (fun hb5 => ?_) (fun hb5 => ?_)
 ·replace hr := cd_t hb5 hr
  replace hr := bd hr; obtain ⟨v6, hc7, hr⟩ := hr
  refine CQ.region fine (callOf_1 82 [.agg [aB v1.Negative, sU32 v1.Groups]] [.own [aB num.Negative, sU32 num.Groups], .own [aB den.Negative, sU32 den.Groups], .own [aB false, .at (.slice none 0 0), aB false, .at (.slice none 0 0)], .own [aB v1.Negative, sU32 v1.Groups]] (.loc (.agg [aB v6.Negative, sU32 v6.Groups]) [] [] 0) (callOk_ref (l := []) (args' := [.agg [aB v1.Negative, sU32 v1.Groups]]) (SnL.cons (Sn.pure rfl) SnL.nil) (fiducialref01_Neg_ok n v1 v6 hc7))) ?_
  refine EVO.p1 (.agg [aB v1.Negative, sU32 v1.Groups]) ?_
  refine EVO.c0 (by kernel_rfl) (callOf_at (by kernel_rfl)) ?_
  refine EVO.e1 (.unk) [(3, .own [aB v6.Negative, sU32 v6.Groups])] ?_
  refine EVO.done ?_
  refine CQ.n1 [2, 3, 4, 5] (mkS 37 0 [(2, .hp 0 0), (3, .hp 1 0), (4, .hp 2 0), (5, .hp 3 0)]) [.own [aB num.Negative, sU32 num.Groups], .own [aB den.Negative, sU32 den.Groups], .own [aB false, .at (.slice none 0 0), aB false, .at (.slice none 0 0)], .own [aB v6.Negative, sU32 v6.Groups]] ?_
  refine CQ.seq ?_
  replace hr := bd hr; obtain ⟨v8, hc9, hr⟩ := hr
  refine CQ.region fine (callOf_1 100 [.agg [aB num.Negative, sU32 num.Groups], .agg [aB v6.Negative, sU32 v6.Groups]] [.own [aB num.Negative, sU32 num.Groups], .own [aB den.Negative, sU32 den.Groups], .own [aB false, .at (.slice none 0 0), aB false, .at (.slice none 0 0)], .own [aB v6.Negative, sU32 v6.Groups]] (.loc (.tup [.agg [aB v8.1.Negative, sU32 v8.1.Groups], .agg [aB v8.2.1.Negative, sU32 v8.2.1.Groups], aI64 v8.2.2]) [] [] 0) (callOk_ref (l := []) (args' := [.agg [aB num.Negative, sU32 num.Groups], .agg [aB v6.Negative, sU32 v6.Groups]]) (SnL.cons (Sn.pure rfl) (SnL.cons (Sn.pure rfl) SnL.nil)) (fiducialref01_Divide_ok n num v6 v8 hc9))) ?_
  refine EVO.p1 (.agg [aB num.Negative, sU32 num.Groups]) ?_
  refine EVO.p1 (.agg [aB v6.Negative, sU32 v6.Groups]) ?_
  refine EVO.c0 (by kernel_rfl) (callOf_at (by kernel_rfl)) ?_
  refine EVO.p1 (.tup [.agg [aB v8.1.Negative, sU32 v8.1.Groups], .agg [aB v8.2.1.Negative, sU32 v8.2.1.Groups], aI64 v8.2.2]) ?_
  refine EVO.p1 (.agg [aB v8.1.Negative, sU32 v8.1.Groups]) ?_
  refine EVO.p1 (.agg [aB v8.2.1.Negative, sU32 v8.2.1.Groups]) ?_
  refine EVO.p1 (aI64 v8.2.2) ?_
  refine EVO.e1 (.hp 4 0) [(4, .own [aB false, .at (.slice none 0 0)])] ?_
  refine EVO.e1 (.hp 5 0) [(5, .own [aB false, .at (.slice none 0 0)])] ?_
  refine EVO.e1 (.unk) [(4, .own [aB v8.1.Negative, sU32 v8.1.Groups])] ?_
  refine EVO.e1 (.unk) [(5, .own [aB v8.2.1.Negative, sU32 v8.2.1.Groups])] ?_
  refine EVO.p1 (aI64 v8.2.2) ?_
  refine EVO.done ?_
  refine CQ.n1 [3, 4, 5, 6] (mkS 37 0 [(3, .hp 1 0), (4, .hp 2 0), (5, .hp 3 0), (6, .hp 4 0)]) [.own [aB num.Negative, sU32 num.Groups], .own [aB den.Negative, sU32 den.Groups], .own [aB false, .at (.slice none 0 0), aB false, .at (.slice none 0 0)], .own [aB v6.Negative, sU32 v6.Groups], .own [aB v8.1.Negative, sU32 v8.1.Groups], .own [aB v8.2.1.Negative, sU32 v8.2.1.Groups]] ?_
  refine CQ.seq ?_
  replace hr := bd hr; obtain ⟨v10, hc11, hr⟩ := hr
  refine CQ.region fine (callOf_1 100 [.agg [aB den.Negative, sU32 den.Groups], .agg [aB v6.Negative, sU32 v6.Groups]] [.own [aB num.Negative, sU32 num.Groups], .own [aB den.Negative, sU32 den.Groups], .own [aB false, .at (.slice none 0 0), aB false, .at (.slice none 0 0)], .own [aB v6.Negative, sU32 v6.Groups], .own [aB v8.1.Negative, sU32 v8.1.Groups], .own [aB v8.2.1.Negative, sU32 v8.2.1.Groups]] (.loc (.tup [.agg [aB v10.1.Negative, sU32 v10.1.Groups], .agg [aB v10.2.1.Negative, sU32 v10.2.1.Groups], aI64 v10.2.2]) [] [] 0) (callOk_ref (l := []) (args' := [.agg [aB den.Negative, sU32 den.Groups], .agg [aB v6.Negative, sU32 v6.Groups]]) (SnL.cons (Sn.pure rfl) (SnL.cons (Sn.pure rfl) SnL.nil)) (fiducialref01_Divide_ok n den v6 v10 hc11))) ?_
  refine EVO.p1 (.agg [aB den.Negative, sU32 den.Groups]) ?_
  refine EVO.p1 (.agg [aB v6.Negative, sU32 v6.Groups]) ?_
  refine EVO.c0 (by kernel_rfl) (callOf_at (by kernel_rfl)) ?_
  refine EVO.p1 (.tup [.agg [aB v10.1.Negative, sU32 v10.1.Groups], .agg [aB v10.2.1.Negative, sU32 v10.2.1.Groups], aI64 v10.2.2]) ?_
  refine EVO.p1 (.agg [aB v10.1.Negative, sU32 v10.1.Groups]) ?_
  refine EVO.p1 (.agg [aB v10.2.1.Negative, sU32 v10.2.1.Groups]) ?_
  refine EVO.p1 (aI64 v10.2.2) ?_
  refine EVO.e1 (.hp 6 0) [(6, .own [aB false, .at (.slice none 0 0)])] ?_
  refine EVO.e1 (.hp 7 0) [(7, .own [aB false, .at (.slice none 0 0)])] ?_
  refine EVO.e1 (.unk) [(6, .own [aB v10.1.Negative, sU32 v10.1.Groups])] ?_
  refine EVO.e1 (.unk) [(7, .own [aB v10.2.1.Negative, sU32 v10.2.1.Groups])] ?_
  refine EVO.p1 (aI64 v10.2.2) ?_
  refine EVO.done ?_
  refine CQ.n1 [4, 6, 9] (mkS 37 0 [(4, .hp 2 0), (6, .hp 4 0), (9, .hp 6 0)]) [.own [aB num.Negative, sU32 num.Groups], .own [aB den.Negative, sU32 den.Groups], .own [aB false, .at (.slice none 0 0), aB false, .at (.slice none 0 0)], .own [aB v6.Negative, sU32 v6.Groups], .own [aB v8.1.Negative, sU32 v8.1.Groups], .own [aB v8.2.1.Negative, sU32 v8.2.1.Groups], .own [aB v10.1.Negative, sU32 v10.1.Groups], .own [aB v10.2.1.Negative, sU32 v10.2.1.Groups]] ?_
  refine CQ.seq ?_
  refine CQ.r0 fine ?_
  refine EVO.p1 (.agg [aB v8.1.Negative, sU32 v8.1.Groups]) ?_
  refine EVO.p1 (.agg [aB v10.1.Negative, sU32 v10.1.Groups]) ?_
  refine EVO.p1 (.agg [aB v8.1.Negative, sU32 v8.1.Groups, aB v10.1.Negative, sU32 v10.1.Groups]) ?_
  refine EVO.e1 (.unk) [(2, .own [aB v8.1.Negative, sU32 v8.1.Groups, aB v10.1.Negative, sU32 v10.1.Groups])] ?_
  refine EVO.done ?_
  refine CQ.ret ?_
  obtain rfl := Option.some.inj hr
  exact FinQ.r1 [.agg [aB v8.1.Negative, sU32 v8.1.Groups, aB v10.1.Negative, sU32 v10.1.Groups]]
 ·replace hr := cd_f hb5 hr
  refine CQ.skip ?_
  refine CQ.seq ?_
  replace hr := bd hr; obtain ⟨v12, hc13, hr⟩ := hr
  refine CQ.region fine (callOf_1 100 [.agg [aB num.Negative, sU32 num.Groups], .agg [aB v1.Negative, sU32 v1.Groups]] [.own [aB num.Negative, sU32 num.Groups], .own [aB den.Negative, sU32 den.Groups], .own [aB false, .at (.slice none 0 0), aB false, .at (.slice none 0 0)], .own [aB v1.Negative, sU32 v1.Groups]] (.loc (.tup [.agg [aB v12.1.Negative, sU32 v12.1.Groups], .agg [aB v12.2.1.Negative, sU32 v12.2.1.Groups], aI64 v12.2.2]) [] [] 0) (callOk_ref (l := []) (args' := [.agg [aB num.Negative, sU32 num.Groups], .agg [aB v1.Negative, sU32 v1.Groups]]) (SnL.cons (Sn.pure rfl) (SnL.cons (Sn.pure rfl) SnL.nil)) (fiducialref01_Divide_ok n num v1 v12 hc13))) ?_
  refine EVO.p1 (.agg [aB num.Negative, sU32 num.Groups]) ?_
  refine EVO.p1 (.agg [aB v1.Negative, sU32 v1.Groups]) ?_
  refine EVO.c0 (by kernel_rfl) (callOf_at (by kernel_rfl)) ?_
  refine EVO.p1 (.tup [.agg [aB v12.1.Negative, sU32 v12.1.Groups], .agg [aB v12.2.1.Negative, sU32 v12.2.1.Groups], aI64 v12.2.2]) ?_
  refine EVO.p1 (.agg [aB v12.1.Negative, sU32 v12.1.Groups]) ?_
  refine EVO.p1 (.agg [aB v12.2.1.Negative, sU32 v12.2.1.Groups]) ?_
  refine EVO.p1 (aI64 v12.2.2) ?_
  refine EVO.e1 (.hp 4 0) [(4, .own [aB false, .at (.slice none 0 0)])] ?_
  refine EVO.e1 (.hp 5 0) [(5, .own [aB false, .at (.slice none 0 0)])] ?_
  refine EVO.e1 (.unk) [(4, .own [aB v12.1.Negative, sU32 v12.1.Groups])] ?_
  refine EVO.e1 (.unk) [(5, .own [aB v12.2.1.Negative, sU32 v12.2.1.Groups])] ?_
  refine EVO.p1 (aI64 v12.2.2) ?_
  refine EVO.done ?_
  refine CQ.n1 [3, 4, 5, 6] (mkS 37 0 [(3, .hp 1 0), (4, .hp 2 0), (5, .hp 3 0), (6, .hp 4 0)]) [.own [aB num.Negative, sU32 num.Groups], .own [aB den.Negative, sU32 den.Groups], .own [aB false, .at (.slice none 0 0), aB false, .at (.slice none 0 0)], .own [aB v1.Negative, sU32 v1.Groups], .own [aB v12.1.Negative, sU32 v12.1.Groups], .own [aB v12.2.1.Negative, sU32 v12.2.1.Groups]] ?_
  refine CQ.seq ?_
  replace hr := bd hr; obtain ⟨v14, hc15, hr⟩ := hr
  refine CQ.region fine (callOf_1 100 [.agg [aB den.Negative, sU32 den.Groups], .agg [aB v1.Negative, sU32 v1.Groups]] [.own [aB num.Negative, sU32 num.Groups], .own [aB den.Negative, sU32 den.Groups], .own [aB false, .at (.slice none 0 0), aB false, .at (.slice none 0 0)], .own [aB v1.Negative, sU32 v1.Groups], .own [aB v12.1.Negative, sU32 v12.1.Groups], .own [aB v12.2.1.Negative, sU32 v12.2.1.Groups]] (.loc (.tup [.agg [aB v14.1.Negative, sU32 v14.1.Groups], .agg [aB v14.2.1.Negative, sU32 v14.2.1.Groups], aI64 v14.2.2]) [] [] 0) (callOk_ref (l := []) (args' := [.agg [aB den.Negative, sU32 den.Groups], .agg [aB v1.Negative, sU32 v1.Groups]]) (SnL.cons (Sn.pure rfl) (SnL.cons (Sn.pure rfl) SnL.nil)) (fiducialref01_Divide_ok n den v1 v14 hc15))) ?_
  refine EVO.p1 (.agg [aB den.Negative, sU32 den.Groups]) ?_
  refine EVO.p1 (.agg [aB v1.Negative, sU32 v1.Groups]) ?_
  refine EVO.c0 (by kernel_rfl) (callOf_at (by kernel_rfl)) ?_
  refine EVO.p1 (.tup [.agg [aB v14.1.Negative, sU32 v14.1.Groups], .agg [aB v14.2.1.Negative, sU32 v14.2.1.Groups], aI64 v14.2.2]) ?_
  refine EVO.p1 (.agg [aB v14.1.Negative, sU32 v14.1.Groups]) ?_
  refine EVO.p1 (.agg [aB v14.2.1.Negative, sU32 v14.2.1.Groups]) ?_
  refine EVO.p1 (aI64 v14.2.2) ?_
  refine EVO.e1 (.hp 6 0) [(6, .own [aB false, .at (.slice none 0 0)])] ?_
  refine EVO.e1 (.hp 7 0) [(7, .own [aB false, .at (.slice none 0 0)])] ?_
  refine EVO.e1 (.unk) [(6, .own [aB v14.1.Negative, sU32 v14.1.Groups])] ?_
  refine EVO.e1 (.unk) [(7, .own [aB v14.2.1.Negative, sU32 v14.2.1.Groups])] ?_
  refine EVO.p1 (aI64 v14.2.2) ?_
  refine EVO.done ?_
  refine CQ.n1 [4, 6, 9] (mkS 37 0 [(4, .hp 2 0), (6, .hp 4 0), (9, .hp 6 0)]) [.own [aB num.Negative, sU32 num.Groups], .own [aB den.Negative, sU32 den.Groups], .own [aB false, .at (.slice none 0 0), aB false, .at (.slice none 0 0)], .own [aB v1.Negative, sU32 v1.Groups], .own [aB v12.1.Negative, sU32 v12.1.Groups], .own [aB v12.2.1.Negative, sU32 v12.2.1.Groups], .own [aB v14.1.Negative, sU32 v14.1.Groups], .own [aB v14.2.1.Negative, sU32 v14.2.1.Groups]] ?_
  refine CQ.seq ?_
  refine CQ.r0 fine ?_
  refine EVO.p1 (.agg [aB v12.1.Negative, sU32 v12.1.Groups]) ?_
  refine EVO.p1 (.agg [aB v14.1.Negative, sU32 v14.1.Groups]) ?_
  refine EVO.p1 (.agg [aB v12.1.Negative, sU32 v12.1.Groups, aB v14.1.Negative, sU32 v14.1.Groups]) ?_
  refine EVO.e1 (.unk) [(2, .own [aB v12.1.Negative, sU32 v12.1.Groups, aB v14.1.Negative, sU32 v14.1.Groups])] ?_
  refine EVO.done ?_
  refine CQ.ret ?_
  obtain rfl := Option.some.inj hr
  exact FinQ.r1 [.agg [aB v12.1.Negative, sU32 v12.1.Groups, aB v14.1.Negative, sU32 v14.1.Groups]]

theorem fiducialref02_Add_ok (n : Nat) (x' : api_Rat) (y : api_Rat) (r : api_Rat) (hr : fiducialref02_Add n x' y = some r) : FnOk Try.prog 71 [.agg [.at (.bool x'.Num.Negative), slT (iC .u32) x'.Num.Groups, .at (.bool x'.Den.Negative), slT (iC .u32) x'.Den.Groups], .agg [.at (.bool y.Num.Negative), slT (iC .u32) y.Num.Groups, .at (.bool y.Den.Negative), slT (iC .u32) y.Den.Groups]] (.agg [.at (.bool r.Num.Negative), slT (iC .u32) r.Num.Groups, .at (.bool r.Den.Negative), slT (iC .u32) r.Den.Groups]) := by
 unfold fiducialref02_Add at hr
 refine FnOk.body fine Try.func71 (c := (Try.f71.body).getD .skip) rfl (s := mkS 28 0 [(0, .agg [aB x'.Num.Negative, sU32 x'.Num.Groups, aB x'.Den.Negative, sU32 x'.Den.Groups]), (1, .agg [aB y.Num.Negative, sU32 y.Num.Groups, aB y.Den.Negative, sU32 y.Den.Groups])]) (by kernel_rfl) (rs := [.cell 4 48]) rfl ?_
 unfold Try.f71
 simp only [Option.getD_some]
 refine CQ.seq ?_
 refine CQ.r0 fine ?_
 refine EVO.e1 (.hp 0 0) [(0, .own [aB x'.Num.Negative, sU32 x'.Num.Groups, aB x'.Den.Negative, sU32 x'.Den.Groups])] ?_
 refine EVO.e1 (.hp 1 0) [(1, .own [aB y.Num.Negative, sU32 y.Num.Groups, aB y.Den.Negative, sU32 y.Den.Groups])] ?_
 refine EVO.e1 (.hp 2 0) [(2, .own [aB false, .at (.slice none 0 0), aB false, .at (.slice none 0 0)])] ?_
 refine EVO.done ?_
 refine CQ.n1 [2, 3, 4] (mkS 28 0 [(2, .hp 0 0), (3, .hp 1 0), (4, .hp 2 0)]) [.own [aB x'.Num.Negative, sU32 x'.Num.Groups, aB x'.Den.Negative, sU32 x'.Den.Groups], .own [aB y.Num.Negative, sU32 y.Num.Groups, aB y.Den.Negative, sU32 y.Den.Groups], .own [aB false, .at (.slice none 0 0), aB false, .at (.slice none 0 0)]] ?_
 refine CQ.seq ?_
 replace hr := bd hr; obtain ⟨v1, hc2, hr⟩ := hr
 refine CQ.region fine (callOf_1 70 [.agg [aB x'.Num.Negative, sU32 x'.Num.Groups, aB x'.Den.Negative, sU32 x'.Den.Groups]] [.own [aB x'.Num.Negative, sU32 x'.Num.Groups, aB x'.Den.Negative, sU32 x'.Den.Groups], .own [aB y.Num.Negative, sU32 y.Num.Groups, aB y.Den.Negative, sU32 y.Den.Groups], .own [aB false, .at (.slice none 0 0), aB false, .at (.slice none 0 0)]] (.loc (.agg [aB v1.Num.Negative, sU32 v1.Num.Groups, aB v1.Den.Negative, sU32 v1.Den.Groups]) [] [] 0) (callOk_ref (l := []) (args' := [.agg [aB x'.Num.Negative, sU32 x'.Num.Groups, aB x'.Den.Negative, sU32 x'.Den.Groups]]) (SnL.cons (Sn.pure rfl) SnL.nil) (fiducialref02_Value_ok n x' v1 hc2))) ?_
 refine EVO.p1 (.agg [aB x'.Num.Negative, sU32 x'.Num.Groups, aB x'.Den.Negative, sU32 x'.Den.Groups]) ?_
 refine EVO.c0 (by kernel_rfl) (callOf_at (by kernel_rfl)) ?_
 refine EVO.e1 (.hp 3 0) [(3, .own [aB false, .at (.slice none 0 0), aB false, .at (.slice none 0 0)])] ?_
 refine EVO.e1 (.unk) [(3, .own [aB v1.Num.Negative, sU32 v1.Num.Groups, aB v1.Den.Negative, sU32 v1.Den.Groups])] ?_
 refine EVO.done ?_
 refine CQ.n1 [3, 4, 5] (mkS 28 0 [(3, .hp 1 0), (4, .hp 2 0), (5, .hp 3 0)]) [.own [aB x'.Num.Negative, sU32 x'.Num.Groups, aB x'.Den.Negative, sU32 x'.Den.Groups], .own [aB y.Num.Negative, sU32 y.Num.Groups, aB y.Den.Negative, sU32 y.Den.Groups], .own [aB false, .at (.slice none 0 0), aB false, .at (.slice none 0 0)], .own [aB v1.Num.Negative, sU32 v1.Num.Groups, aB v1.Den.Negative, sU32 v1.Den.Groups]] ?_
 refine CQ.seq ?_
 replace hr := bd hr; obtain ⟨v3, hc4, hr⟩ := hr
 refine CQ.region fine (callOf_1 70 [.agg [aB y.Num.Negative, sU32 y.Num.Groups, aB y.Den.Negative, sU32 y.Den.Groups]] [.own [aB x'.Num.Negative, sU32 x'.Num.Groups, aB x'.Den.Negative, sU32 x'.Den.Groups], .own [aB y.Num.Negative, sU32 y.Num.Groups, aB y.Den.Negative, sU32 y.Den.Groups], .own [aB false, .at (.slice none 0 0), aB false, .at (.slice none 0 0)], .own [aB v1.Num.Negative, sU32 v1.Num.Groups, aB v1.Den.Negative, sU32 v1.Den.Groups]] (.loc (.agg [aB v3.Num.Negative, sU32 v3.Num.Groups, aB v3.Den.Negative, sU32 v3.Den.Groups]) [] [] 0) (callOk_ref (l := []) (args' := [.agg [aB y.Num.Negative, sU32 y.Num.Groups, aB y.Den.Negative, sU32 y.Den.Groups]]) (SnL.cons (Sn.pure rfl) SnL.nil) (fiducialref02_Value_ok n y v3 hc4))) ?_
 refine EVO.p1 (.agg [aB y.Num.Negative, sU32 y.Num.Groups, aB y.Den.Negative, sU32 y.Den.Groups]) ?_
 refine EVO.c0 (by kernel_rfl) (callOf_at (by kernel_rfl)) ?_
 refine EVO.e1 (.hp 4 0) [(4, .own [aB false, .at (.slice none 0 0), aB false, .at (.slice none 0 0)])] ?_
 refine EVO.e1 (.unk) [(4, .own [aB v3.Num.Negative, sU32 v3.Num.Groups, aB v3.Den.Negative, sU32 v3.Den.Groups])] ?_
 refine EVO.done ?_
 refine CQ.n1 [4, 5, 6] (mkS 28 0 [(4, .hp 2 0), (5, .hp 3 0), (6, .hp 4 0)]) [.own [aB x'.Num.Negative, sU32 x'.Num.Groups, aB x'.Den.Negative, sU32 x'.Den.Groups], .own [aB y.Num.Negative, sU32 y.Num.Groups, aB y.Den.Negative, sU32 y.Den.Groups], .own [aB false, .at (.slice none 0 0), aB false, .at (.slice none 0 0)], .own [aB v1.Num.Negative, sU32 v1.Num.Groups, aB v1.Den.Negative, sU32 v1.Den.Groups], .own [aB v3.Num.Negative, sU32 v3.Num.Groups, aB v3.Den.Negative, sU32 v3.Den.Groups]] ?_
 refine CQ.seq ?_
 replace hr := bd hr; obtain ⟨v5, hc6, hr⟩ := hr
 replace hr := bd hr; obtain ⟨v7, hc8, hr⟩ := hr
 replace hr := bd hr; obtain ⟨v9, hc10, hr⟩ := hr
 replace hr := bd hr; obtain ⟨v11, hc12, hr⟩ := hr
 replace hr := bd hr; obtain ⟨v13, hc14, hr⟩ := hr
 refine CQ.regionT fine (callOf_ok [{ f := 90, args := [.agg [aB v1.Num.Negative, sU32 v1.Num.Groups], .agg [aB v3.Den.Negative, sU32 v3.Den.Groups]], H := [.own [aB x'.Num.Negative, sU32 x'.Num.Groups, aB x'.Den.Negative, sU32 x'.Den.Groups], .own [aB y.Num.Negative, sU32 y.Num.Groups, aB y.Den.Negative, sU32 y.Den.Groups], .own [aB false, .at (.slice none 0 0), aB false, .at (.slice none 0 0)], .own [aB v1.Num.Negative, sU32 v1.Num.Groups, aB v1.Den.Negative, sU32 v1.Den.Groups], .own [aB v3.Num.Negative, sU32 v3.Num.Groups, aB v3.Den.Negative, sU32 v3.Den.Groups]], r := .loc (.agg [aB v5.Negative, sU32 v5.Groups]) [] [] 0 : CE }, { f := 90, args := [.agg [aB v3.Num.Negative, sU32 v3.Num.Groups], .agg [aB v1.Den.Negative, sU32 v1.Den.Groups]], H := [.own [aB x'.Num.Negative, sU32 x'.Num.Groups, aB x'.Den.Negative, sU32 x'.Den.Groups], .own [aB y.Num.Negative, sU32 y.Num.Groups, aB y.Den.Negative, sU32 y.Den.Groups], .own [aB false, .at (.slice none 0 0), aB false, .at (.slice none 0 0)], .own [aB v1.Num.Negative, sU32 v1.Num.Groups, aB v1.Den.Negative, sU32 v1.Den.Groups], .own [aB v3.Num.Negative, sU32 v3.Num.Groups, aB v3.Den.Negative, sU32 v3.Den.Groups]], r := .loc (.agg [aB v7.Negative, sU32 v7.Groups]) [] [] 0 : CE }, { f := 81, args := [.agg [aB v5.Negative, sU32 v5.Groups], .agg [aB v7.Negative, sU32 v7.Groups]], H := [.own [aB x'.Num.Negative, sU32 x'.Num.Groups, aB x'.Den.Negative, sU32 x'.Den.Groups], .own [aB y.Num.Negative, sU32 y.Num.Groups, aB y.Den.Negative, sU32 y.Den.Groups], .own [aB false, .at (.slice none 0 0), aB false, .at (.slice none 0 0)], .own [aB v1.Num.Negative, sU32 v1.Num.Groups, aB v1.Den.Negative, sU32 v1.Den.Groups], .own [aB v3.Num.Negative, sU32 v3.Num.Groups, aB v3.Den.Negative, sU32 v3.Den.Groups]], r := .loc (.agg [aB v9.Negative, sU32 v9.Groups]) [] [] 0 : CE }, { f := 90, args := [.agg [aB v1.Den.Negative, sU32 v1.Den.Groups], .agg [aB v3.Den.Negative, sU32 v3.Den.Groups]], H := [.own [aB x'.Num.Negative, sU32 x'.Num.Groups, aB x'.Den.Negative, sU32 x'.Den.Groups], .own [aB y.Num.Negative, sU32 y.Num.Groups, aB y.Den.Negative, sU32 y.Den.Groups], .own [aB false, .at (.slice none 0 0), aB false, .at (.slice none 0 0)], .own [aB v1.Num.Negative, sU32 v1.Num.Groups, aB v1.Den.Negative, sU32 v1.Den.Groups], .own [aB v3.Num.Negative, sU32 v3.Num.Groups, aB v3.Den.Negative, sU32 v3.Den.Groups]], r := .loc (.agg [aB v11.Negative, sU32 v11.Groups]) [] [] 0 : CE }, { f := 89, args := [.agg [aB v9.Negative, sU32 v9.Groups], .agg [aB v11.Negative, sU32 v11.Groups]], H := [.own [aB x'.Num.Negative, sU32 x'.Num.Groups, aB x'.Den.Negative, sU32 x'.Den.Groups], .own [aB y.Num.Negative, sU32 y.Num.Groups, aB y.Den.Negative, sU32 y.Den.Groups], .own [aB false, .at (.slice none 0 0), aB false, .at (.slice none 0 0)], .own [aB v1.Num.Negative, sU32 v1.Num.Groups, aB v1.Den.Negative, sU32 v1.Den.Groups], .own [aB v3.Num.Negative, sU32 v3.Num.Groups, aB v3.Den.Negative, sU32 v3.Den.Groups]], r := .loc (.agg [aB v13.Num.Negative, sU32 v13.Num.Groups, aB v13.Den.Negative, sU32 v13.Den.Groups]) [] [] 0 : CE }] (List.forall_mem_cons.2 ⟨(callOk_ref (l := []) (args' := [.agg [aB v1.Num.Negative, sU32 v1.Num.Groups], .agg [aB v3.Den.Negative, sU32 v3.Den.Groups]]) (SnL.cons (Sn.pure rfl) (SnL.cons (Sn.pure rfl) SnL.nil)) (fiducialref01_Mul_ok n v1.Num v3.Den v5 hc6)), (List.forall_mem_cons.2 ⟨(callOk_ref (l := []) (args' := [.agg [aB v3.Num.Negative, sU32 v3.Num.Groups], .agg [aB v1.Den.Negative, sU32 v1.Den.Groups]]) (SnL.cons (Sn.pure rfl) (SnL.cons (Sn.pure rfl) SnL.nil)) (fiducialref01_Mul_ok n v3.Num v1.Den v7 hc8)), (List.forall_mem_cons.2 ⟨(callOk_ref (l := []) (args' := [.agg [aB v5.Negative, sU32 v5.Groups], .agg [aB v7.Negative, sU32 v7.Groups]]) (SnL.cons (Sn.pure rfl) (SnL.cons (Sn.pure rfl) SnL.nil)) (fiducialref01_Add_ok n v5 v7 v9 hc10)), (List.forall_mem_cons.2 ⟨(callOk_ref (l := []) (args' := [.agg [aB v1.Den.Negative, sU32 v1.Den.Groups], .agg [aB v3.Den.Negative, sU32 v3.Den.Groups]]) (SnL.cons (Sn.pure rfl) (SnL.cons (Sn.pure rfl) SnL.nil)) (fiducialref01_Mul_ok n v1.Den v3.Den v11 hc12)), (List.forall_mem_cons.2 ⟨(callOk_ref (l := []) (args' := [.agg [aB v9.Negative, sU32 v9.Groups], .agg [aB v11.Negative, sU32 v11.Groups]]) (SnL.cons (Sn.pure rfl) (SnL.cons (Sn.pure rfl) SnL.nil)) (fiducialref02_reduced_ok n v9 v11 v13 hc14)), ce0⟩)⟩)⟩)⟩)⟩)) ?_
 refine EVT.p1 (.hp 3 0) ?_
 refine EVT.p1 (.agg [aB v1.Num.Negative, sU32 v1.Num.Groups]) ?_
 refine EVT.p1 (.hp 4 2) ?_
 refine EVT.p1 (.agg [aB v3.Den.Negative, sU32 v3.Den.Groups]) ?_
 refine EVT.cal (by kernel_rfl) (by kernel_rfl) (callOf_at (by kernel_rfl)) (by kernel_rfl) ?_
 refine EVT.p1 (.hp 4 0) ?_
 refine EVT.p1 (.agg [aB v3.Num.Negative, sU32 v3.Num.Groups]) ?_
 refine EVT.p1 (.hp 3 2) ?_
 refine EVT.p1 (.agg [aB v1.Den.Negative, sU32 v1.Den.Groups]) ?_
 refine EVT.cal (by kernel_rfl) (by kernel_rfl) (callOf_skip (fun _ h => by obtain ⟨e0, e1⟩ := fiducialref01_Mul_inj h; rw [show v7 = v5 from Option.some.inj (hc8.symm.trans ((show fiducialref01_Mul n v3.Num v1.Den = fiducialref01_Mul n v1.Num v3.Den from (congr (congr rfl e0) e1)).trans hc6))]) (callOf_at (by kernel_rfl))) (by kernel_rfl) ?_
 refine EVT.cal (by kernel_rfl) (by kernel_rfl) (callOf_skip (fun h _ => absurd (show (81 : Nat) = 90 from h) (by decide)) (callOf_skip (fun h _ => absurd (show (81 : Nat) = 90 from h) (by decide)) (callOf_at (by kernel_rfl)))) (by kernel_rfl) ?_
 refine EVT.p1 (.hp 3 2) ?_
 refine EVT.p1 (.agg [aB v1.Den.Negative, sU32 v1.Den.Groups]) ?_
 refine EVT.p1 (.hp 4 2) ?_
 refine EVT.p1 (.agg [aB v3.Den.Negative, sU32 v3.Den.Groups]) ?_
 refine EVT.cal (by kernel_rfl) (by kernel_rfl) (callOf_skip (fun _ h => by obtain ⟨e0, e1⟩ := fiducialref01_Mul_inj h; rw [show v11 = v5 from Option.some.inj (hc12.symm.trans ((show fiducialref01_Mul n v1.Den v3.Den = fiducialref01_Mul n v1.Num v3.Den from (congr (congr rfl e0) e1)).trans hc6))]) (callOf_skip (fun _ h => by obtain ⟨e0, e1⟩ := fiducialref01_Mul_inj h; rw [show v11 = v7 from Option.some.inj (hc12.symm.trans ((show fiducialref01_Mul n v1.Den v3.Den = fiducialref01_Mul n v3.Num v1.Den from (congr (congr rfl e0) e1)).trans hc8))]) (callOf_skip (fun h _ => absurd (show (90 : Nat) = 81 from h) (by decide)) (callOf_at (by kernel_rfl))))) (by kernel_rfl) ?_
 refine EVT.cal (by kernel_rfl) (by kernel_rfl) (callOf_skip (fun h _ => absurd (show (89 : Nat) = 90 from h) (by decide)) (callOf_skip (fun h _ => absurd (show (89 : Nat) = 90 from h) (by decide)) (callOf_skip (fun h _ => absurd (show (89 : Nat) = 81 from h) (by decide)) (callOf_skip (fun h _ => absurd (show (89 : Nat) = 90 from h) (by decide)) (callOf_at (by kernel_rfl)))))) (by kernel_rfl) ?_
 refine EVT.e1 (.unk) [(2, .own [aB v13.Num.Negative, sU32 v13.Num.Groups, aB v13.Den.Negative, sU32 v13.Den.Groups])] ?_
 refine EVT.done ⟨by kernel_rfl, ?_⟩
 refine CQ.ret ?_
 obtain rfl := Option.some.inj hr
 exact FinQ.r1 [.agg [aB v13.Num.Negative, sU32 v13.Num.Groups, aB v13.Den.Negative, sU32 v13.Den.Groups]]

theorem fiducialref02_Sub_ok (n : Nat) (x' : api_Rat) (y : api_Rat) (r : api_Rat) (hr : fiducialref02_Sub n x' y = some r) : FnOk Try.prog 53 [.agg [.at (.bool x'.Num.Negative), slT (iC .u32) x'.Num.Groups, .at (.bool x'.Den.Negative), slT (iC .u32) x'.Den.Groups], .agg [.at (.bool y.Num.Negative), slT (iC .u32) y.Num.Groups, .at (.bool y.Den.Negative), slT (iC .u32) y.Den.Groups]] (.agg [.at (.bool r.Num.Negative), slT (iC .u32) r.Num.Groups, .at (.bool r.Den.Negative), slT (iC .u32) r.Den.Groups]) := by
 unfold fiducialref02_Sub at hr
 refine FnOk.body fine Try.func53 (c := (Try.f53.body).getD .skip) rfl (s := mkS 9 0 [(0, .agg [aB x'.Num.Negative, sU32 x'.Num.Groups, aB x'.Den.Negative, sU32 x'.Den.Groups]), (1, .agg [aB y.Num.Negative, sU32 y.Num.Groups, aB y.Den.Negative, sU32 y.Den.Groups])]) (by kernel_rfl) (rs := [.cell 4 48]) rfl ?_
 unfold Try.f53
 simp only [Option.getD_some]
 refine CQ.seq ?_
 refine CQ.r0 fine ?_
 refine EVO.e1 (.hp 0 0) [(0, .own [aB x'.Num.Negative, sU32 x'.Num.Groups, aB x'.Den.Negative, sU32 x'.Den.Groups])] ?_
 refine EVO.e1 (.hp 1 0) [(1, .own [aB y.Num.Negative, sU32 y.Num.Groups, aB y.Den.Negative, sU32 y.Den.Groups])] ?_
 refine EVO.e1 (.hp 2 0) [(2, .own [aB false, .at (.slice none 0 0), aB false, .at (.slice none 0 0)])] ?_
 refine EVO.done ?_
 refine CQ.n1 [2, 3, 4] (mkS 9 0 [(2, .hp 0 0), (3, .hp 1 0), (4, .hp 2 0)]) [.own [aB x'.Num.Negative, sU32 x'.Num.Groups, aB x'.Den.Negative, sU32 x'.Den.Groups], .own [aB y.Num.Negative, sU32 y.Num.Groups, aB y.Den.Negative, sU32 y.Den.Groups], .own [aB false, .at (.slice none 0 0), aB false, .at (.slice none 0 0)]] ?_
 refine CQ.seq ?_
 replace hr := bd hr; obtain ⟨v1, hc2, hr⟩ := hr
 replace hr := bd hr; obtain ⟨v3, hc4, hr⟩ := hr
 refine CQ.regionT fine (callOf_ok [{ f := 72, args := [.agg [aB y.Num.Negative, sU32 y.Num.Groups, aB y.Den.Negative, sU32 y.Den.Groups]], H := [.own [aB x'.Num.Negative, sU32 x'.Num.Groups, aB x'.Den.Negative, sU32 x'.Den.Groups], .own [aB y.Num.Negative, sU32 y.Num.Groups, aB y.Den.Negative, sU32 y.Den.Groups], .own [aB false, .at (.slice none 0 0), aB false, .at (.slice none 0 0)]], r := .loc (.agg [aB v1.Num.Negative, sU32 v1.Num.Groups, aB v1.Den.Negative, sU32 v1.Den.Groups]) [] [] 0 : CE }, { f := 71, args := [.agg [aB x'.Num.Negative, sU32 x'.Num.Groups, aB x'.Den.Negative, sU32 x'.Den.Groups], .agg [aB v1.Num.Negative, sU32 v1.Num.Groups, aB v1.Den.Negative, sU32 v1.Den.Groups]], H := [.own [aB x'.Num.Negative, sU32 x'.Num.Groups, aB x'.Den.Negative, sU32 x'.Den.Groups], .own [aB y.Num.Negative, sU32 y.Num.Groups, aB y.Den.Negative, sU32 y.Den.Groups], .own [aB false, .at (.slice none 0 0), aB false, .at (.slice none 0 0)]], r := .loc (.agg [aB v3.Num.Negative, sU32 v3.Num.Groups, aB v3.Den.Negative, sU32 v3.Den.Groups]) [] [] 0 : CE }] (List.forall_mem_cons.2 ⟨(callOk_ref (l := []) (args' := [.agg [aB y.Num.Negative, sU32 y.Num.Groups, aB y.Den.Negative, sU32 y.Den.Groups]]) (SnL.cons (Sn.pure rfl) SnL.nil) (fiducialref02_Neg_ok n y v1 hc2)), (List.forall_mem_cons.2 ⟨(callOk_ref (l := []) (args' := [.agg [aB x'.Num.Negative, sU32 x'.Num.Groups, aB x'.Den.Negative, sU32 x'.Den.Groups], .agg [aB v1.Num.Negative, sU32 v1.Num.Groups, aB v1.Den.Negative, sU32 v1.Den.Groups]]) (SnL.cons (Sn.pure rfl) (SnL.cons (Sn.pure rfl) SnL.nil)) (fiducialref02_Add_ok n x' v1 v3 hc4)), ce0⟩)⟩)) ?_
 refine EVT.p1 (.agg [aB x'.Num.Negative, sU32 x'.Num.Groups, aB x'.Den.Negative, sU32 x'.Den.Groups]) ?_
 refine EVT.p1 (.agg [aB y.Num.Negative, sU32 y.Num.Groups, aB y.Den.Negative, sU32 y.Den.Groups]) ?_
 refine EVT.cal (by kernel_rfl) (by kernel_rfl) (callOf_at (by kernel_rfl)) (by kernel_rfl) ?_
 refine EVT.cal (by kernel_rfl) (by kernel_rfl) (callOf_skip (fun h _ => absurd (show (71 : Nat) = 72 from h) (by decide)) (callOf_at (by kernel_rfl))) (by kernel_rfl) ?_
 refine EVT.e1 (.unk) [(2, .own [aB v3.Num.Negative, sU32 v3.Num.Groups, aB v3.Den.Negative, sU32 v3.Den.Groups])] ?_
 refine EVT.done ⟨by kernel_rfl, ?_⟩
 refine CQ.ret ?_
 obtain rfl := Option.some.inj hr
 exact FinQ.r1 [.agg [aB v3.Num.Negative, sU32 v3.Num.Groups, aB v3.Den.Negative, sU32 v3.Den.Groups]]

theorem fiducialref02_Sign_ok (n : Nat) (x' : api_Rat) (r : Int) (hr : fiducialref02_Sign n x' = some r) : FnOk Try.prog 52 [.agg [.at (.bool x'.Num.Negative), slT (iC .u32) x'.Num.Groups, .at (.bool x'.Den.Negative), slT (iC .u32) x'.Den.Groups]] (.at (.int .i64 r)) := by
 unfold fiducialref02_Sign at hr
 refine FnOk.body fine Try.func52 (c := (Try.f52.body).getD .skip) rfl (s := mkS 7 0 [(0, .agg [aB x'.Num.Negative, sU32 x'.Num.Groups, aB x'.Den.Negative, sU32 x'.Den.Groups])]) (by kernel_rfl) (rs := [.tmp 2]) rfl ?_
 unfold Try.f52
 simp only [Option.getD_some]
 refine CQ.seq ?_
 refine CQ.r0 fine ?_
 refine EVO.e1 (.hp 0 0) [(0, .own [aB x'.Num.Negative, sU32 x'.Num.Groups, aB x'.Den.Negative, sU32 x'.Den.Groups])] ?_
 refine EVO.p1 (aI64 0) ?_
 refine EVO.done ?_
 refine CQ.n1 [1] (mkS 7 0 [(1, .hp 0 0)]) [.own [aB x'.Num.Negative, sU32 x'.Num.Groups, aB x'.Den.Negative, sU32 x'.Den.Groups]] ?_
 refine CQ.seq ?_
 replace hr := bd hr; obtain ⟨v1, hc2, hr⟩ := hr
 replace hr := bd hr; obtain ⟨v3, hc4, hr⟩ := hr
 refine CQ.region fine (callOf_ok [{ f := 70, args := [.agg [aB x'.Num.Negative, sU32 x'.Num.Groups, aB x'.Den.Negative, sU32 x'.Den.Groups]], H := [.own [aB x'.Num.Negative, sU32 x'.Num.Groups, aB x'.Den.Negative, sU32 x'.Den.Groups]], r := .loc (.agg [aB v1.Num.Negative, sU32 v1.Num.Groups, aB v1.Den.Negative, sU32 v1.Den.Groups]) [] [] 0 : CE }, { f := 49, args := [.agg [aB v1.Num.Negative, sU32 v1.Num.Groups]], H := [.own [aB x'.Num.Negative, sU32 x'.Num.Groups, aB x'.Den.Negative, sU32 x'.Den.Groups]], r := .loc (aI64 v3) [] [] 0 : CE }] (List.forall_mem_cons.2 ⟨(callOk_ref (l := []) (args' := [.agg [aB x'.Num.Negative, sU32 x'.Num.Groups, aB x'.Den.Negative, sU32 x'.Den.Groups]]) (SnL.cons (Sn.pure rfl) SnL.nil) (fiducialref02_Value_ok n x' v1 hc2)), (List.forall_mem_cons.2 ⟨(callOk_val (l := []) (args' := [.agg [aB v1.Num.Negative, sU32 v1.Num.Groups]]) rfl (SnL.cons (Sn.pure rfl) SnL.nil) (fiducialref01_Sign_ok n v1.Num v3 hc4)), ce0⟩)⟩)) ?_
 refine EVO.p1 (.agg [aB x'.Num.Negative, sU32 x'.Num.Groups, aB x'.Den.Negative, sU32 x'.Den.Groups]) ?_
 refine EVO.c0 (by kernel_rfl) (callOf_at (by kernel_rfl)) ?_
 refine EVO.p1 (.agg [aB v1.Num.Negative, sU32 v1.Num.Groups]) ?_
 refine EVO.c0 (by kernel_rfl) (callOf_skip (fun h _ => absurd (show (49 : Nat) = 70 from h) (by decide)) (callOf_at (by kernel_rfl))) ?_
 refine EVO.p1 (aI64 v3) ?_
 refine EVO.done ?_
 refine CQ.ret ?_
 obtain rfl := Option.some.inj hr
 exact FinQ.r1 [aI64 v3]

theorem fiducialref02_Compare_ok (n : Nat) (x' : api_Rat) (y : api_Rat) (r : Int) (hr : fiducialref02_Compare n x' y = some r) : FnOk Try.prog 40 [.agg [.at (.bool x'.Num.Negative), slT (iC .u32) x'.Num.Groups, .at (.bool x'.Den.Negative), slT (iC .u32) x'.Den.Groups], .agg [.at (.bool y.Num.Negative), slT (iC .u32) y.Num.Groups, .at (.bool y.Den.Negative), slT (iC .u32) y.Den.Groups]] (.at (.int .i64 r)) := by
 unfold fiducialref02_Compare at hr
 refine FnOk.body fine Try.func40 (c := (Try.f40.body).getD .skip) rfl (s := mkS 9 0 [(0, .agg [aB x'.Num.Negative, sU32 x'.Num.Groups, aB x'.Den.Negative, sU32 x'.Den.Groups]), (1, .agg [aB y.Num.Negative, sU32 y.Num.Groups, aB y.Den.Negative, sU32 y.Den.Groups])]) (by kernel_rfl) (rs := [.tmp 4]) rfl ?_
 unfold Try.f40
 simp only [Option.getD_some]
 refine CQ.seq ?_
 refine CQ.r0 fine ?_
 refine EVO.e1 (.hp 0 0) [(0, .own [aB x'.Num.Negative, sU32 x'.Num.Groups, aB x'.Den.Negative, sU32 x'.Den.Groups])] ?_
 refine EVO.e1 (.hp 1 0) [(1, .own [aB y.Num.Negative, sU32 y.Num.Groups, aB y.Den.Negative, sU32 y.Den.Groups])] ?_
 refine EVO.p1 (aI64 0) ?_
 refine EVO.done ?_
 refine CQ.n1 [2, 3] (mkS 9 0 [(2, .hp 0 0), (3, .hp 1 0)]) [.own [aB x'.Num.Negative, sU32 x'.Num.Groups, aB x'.Den.Negative, sU32 x'.Den.Groups], .own [aB y.Num.Negative, sU32 y.Num.Groups, aB y.Den.Negative, sU32 y.Den.Groups]] ?_
 refine CQ.seq ?_
 replace hr := bd hr; obtain ⟨v1, hc2, hr⟩ := hr
 replace hr := bd hr; obtain ⟨v3, hc4, hr⟩ := hr
 refine CQ.region fine (callOf_ok [{ f := 53, args := [.agg [aB x'.Num.Negative, sU32 x'.Num.Groups, aB x'.Den.Negative, sU32 x'.Den.Groups], .agg [aB y.Num.Negative, sU32 y.Num.Groups, aB y.Den.Negative, sU32 y.Den.Groups]], H := [.own [aB x'.Num.Negative, sU32 x'.Num.Groups, aB x'.Den.Negative, sU32 x'.Den.Groups], .own [aB y.Num.Negative, sU32 y.Num.Groups, aB y.Den.Negative, sU32 y.Den.Groups]], r := .loc (.agg [aB v1.Num.Negative, sU32 v1.Num.Groups, aB v1.Den.Negative, sU32 v1.Den.Groups]) [] [] 0 : CE }, { f := 52, args := [.agg [aB v1.Num.Negative, sU32 v1.Num.Groups, aB v1.Den.Negative, sU32 v1.Den.Groups]], H := [.own [aB x'.Num.Negative, sU32 x'.Num.Groups, aB x'.Den.Negative, sU32 x'.Den.Groups], .own [aB y.Num.Negative, sU32 y.Num.Groups, aB y.Den.Negative, sU32 y.Den.Groups]], r := .loc (aI64 v3) [] [] 0 : CE }] (List.forall_mem_cons.2 ⟨(callOk_ref (l := []) (args' := [.agg [aB x'.Num.Negative, sU32 x'.Num.Groups, aB x'.Den.Negative, sU32 x'.Den.Groups], .agg [aB y.Num.Negative, sU32 y.Num.Groups, aB y.Den.Negative, sU32 y.Den.Groups]]) (SnL.cons (Sn.pure rfl) (SnL.cons (Sn.pure rfl) SnL.nil)) (fiducialref02_Sub_ok n x' y v1 hc2)), (List.forall_mem_cons.2 ⟨(callOk_val (l := []) (args' := [.agg [aB v1.Num.Negative, sU32 v1.Num.Groups, aB v1.Den.Negative, sU32 v1.Den.Groups]]) rfl (SnL.cons (Sn.pure rfl) SnL.nil) (fiducialref02_Sign_ok n v1 v3 hc4)), ce0⟩)⟩)) ?_
 refine EVO.p1 (.agg [aB x'.Num.Negative, sU32 x'.Num.Groups, aB x'.Den.Negative, sU32 x'.Den.Groups]) ?_
 refine EVO.p1 (.agg [aB y.Num.Negative, sU32 y.Num.Groups, aB y.Den.Negative, sU32 y.Den.Groups]) ?_
 refine EVO.c0 (by kernel_rfl) (callOf_at (by kernel_rfl)) ?_
 refine EVO.c0 (by kernel_rfl) (callOf_skip (fun h _ => absurd (show (52 : Nat) = 53 from h) (by decide)) (callOf_at (by kernel_rfl))) ?_
 refine EVO.p1 (aI64 v3) ?_
 refine EVO.done ?_
 refine CQ.ret ?_
 obtain rfl := Option.some.inj hr
 exact FinQ.r1 [aI64 v3]

theorem fiducialref03_Valid_inj {a : api_Range} {a_ : api_Range} (h : ([.agg [.at (.bool a.Low.Num.Negative), slT (iC .u32) a.Low.Num.Groups, .at (.bool a.Low.Den.Negative), slT (iC .u32) a.Low.Den.Groups, .at (.bool a.High.Num.Negative), slT (iC .u32) a.High.Num.Groups, .at (.bool a.High.Den.Negative), slT (iC .u32) a.High.Den.Groups]] : List AV) = [.agg [.at (.bool a_.Low.Num.Negative), slT (iC .u32) a_.Low.Num.Groups, .at (.bool a_.Low.Den.Negative), slT (iC .u32) a_.Low.Den.Groups, .at (.bool a_.High.Num.Negative), slT (iC .u32) a_.High.Num.Groups, .at (.bool a_.High.Den.Negative), slT (iC .u32) a_.High.Den.Groups]]) : a = a_ := by
 obtain ⟨⟨⟨_, _⟩, ⟨_, _⟩⟩, ⟨⟨_, _⟩, ⟨_, _⟩⟩⟩ := a
 obtain ⟨⟨⟨_, _⟩, ⟨_, _⟩⟩, ⟨⟨_, _⟩, ⟨_, _⟩⟩⟩ := a_
 simp only [List.cons.injEq, AV.agg.injEq, AV.at.injEq, Value.int.injEq, Value.bool.injEq, AV.fn.injEq, AV.pp.injEq, true_and, and_true, slT_inj_int] at h
 simp_all
theorem fiducialref03_Valid_ok (n : Nat) (a : api_Range) (r : Bool) (hr : fiducialref03_Valid n a = some r) : FnOk Try.prog 28 [.agg [.at (.bool a.Low.Num.Negative), slT (iC .u32) a.Low.Num.Groups, .at (.bool a.Low.Den.Negative), slT (iC .u32) a.Low.Den.Groups, .at (.bool a.High.Num.Negative), slT (iC .u32) a.High.Num.Groups, .at (.bool a.High.Den.Negative), slT (iC .u32) a.High.Den.Groups]] (.at (.bool r)) := by
 unfold fiducialref03_Valid at hr
 refine FnOk.body fine Try.func28 (c := (Try.f28.body).getD .skip) rfl (s := mkS 19 0 [(0, .agg [aB a.Low.Num.Negative, sU32 a.Low.Num.Groups, aB a.Low.Den.Negative, sU32 a.Low.Den.Groups, aB a.High.Num.Negative, sU32 a.High.Num.Groups, aB a.High.Den.Negative, sU32 a.High.Den.Groups])]) (by kernel_rfl) (rs := [.tmp 2]) rfl ?_
 unfold Try.f28
 simp only [Option.getD_some]
 refine CQ.seq ?_
 refine CQ.r0 fine ?_
 refine EVO.e1 (.hp 0 0) [(0, .own [aB a.Low.Num.Negative, sU32 a.Low.Num.Groups, aB a.Low.Den.Negative, sU32 a.Low.Den.Groups, aB a.High.Num.Negative, sU32 a.High.Num.Groups, aB a.High.Den.Negative, sU32 a.High.Den.Groups])] ?_
 refine EVO.p1 (aB false) ?_
 refine EVO.done ?_
 refine CQ.n1 [1] (mkS 19 0 [(1, .hp 0 0)]) [.own [aB a.Low.Num.Negative, sU32 a.Low.Num.Groups, aB a.Low.Den.Negative, sU32 a.Low.Den.Groups, aB a.High.Num.Negative, sU32 a.High.Num.Groups, aB a.High.Den.Negative, sU32 a.High.Den.Groups]] ?_
 refine CQ.seq ?_
 replace hr := bd hr; obtain ⟨v1, hc2, hr⟩ := hr
 rcases Bool.eq_false_or_eq_true v1 with hb3 | hb3
 ·subst hb3
  replace hr := cd_t rfl hr
  replace hr := bd hr; obtain ⟨v4, hc5, hr⟩ := hr
  rcases Bool.eq_false_or_eq_true v4 with hb6 | hb6
  ·subst hb6
   replace hr := cd_t rfl hr
   replace hr := bd hr; obtain ⟨v7, hc8, hr⟩ := hr
   refine CQ.region fine (callOf_ok [{ f := 39, args := [.agg [aB a.Low.Num.Negative, sU32 a.Low.Num.Groups, aB a.Low.Den.Negative, sU32 a.Low.Den.Groups]], H := [.own [aB a.Low.Num.Negative, sU32 a.Low.Num.Groups, aB a.Low.Den.Negative, sU32 a.Low.Den.Groups, aB a.High.Num.Negative, sU32 a.High.Num.Groups, aB a.High.Den.Negative, sU32 a.High.Den.Groups]], r := .loc (aB true) [] [] 0 : CE }, { f := 39, args := [.agg [aB a.High.Num.Negative, sU32 a.High.Num.Groups, aB a.High.Den.Negative, sU32 a.High.Den.Groups]], H := [.own [aB a.Low.Num.Negative, sU32 a.Low.Num.Groups, aB a.Low.Den.Negative, sU32 a.Low.Den.Groups, aB a.High.Num.Negative, sU32 a.High.Num.Groups, aB a.High.Den.Negative, sU32 a.High.Den.Groups]], r := .loc (aB true) [] [] 0 : CE }, { f := 40, args := [.agg [aB a.Low.Num.Negative, sU32 a.Low.Num.Groups, aB a.Low.Den.Negative, sU32 a.Low.Den.Groups], .agg [aB a.High.Num.Negative, sU32 a.High.Num.Groups, aB a.High.Den.Negative, sU32 a.High.Den.Groups]], H := [.own [aB a.Low.Num.Negative, sU32 a.Low.Num.Groups, aB a.Low.Den.Negative, sU32 a.Low.Den.Groups, aB a.High.Num.Negative, sU32 a.High.Num.Groups, aB a.High.Den.Negative, sU32 a.High.Den.Groups]], r := .loc (aI64 v7) [] [] 0 : CE }] (List.forall_mem_cons.2 ⟨(callOk_val (l := []) (args' := [.agg [aB a.Low.Num.Negative, sU32 a.Low.Num.Groups, aB a.Low.Den.Negative, sU32 a.Low.Den.Groups]]) rfl (SnL.cons (Sn.pure rfl) SnL.nil) (fiducialref02_Valid_ok n a.Low true hc2)), (List.forall_mem_cons.2 ⟨(callOk_val (l := []) (args' := [.agg [aB a.High.Num.Negative, sU32 a.High.Num.Groups, aB a.High.Den.Negative, sU32 a.High.Den.Groups]]) rfl (SnL.cons (Sn.pure rfl) SnL.nil) (fiducialref02_Valid_ok n a.High true hc5)), (List.forall_mem_cons.2 ⟨(callOk_val (l := []) (args' := [.agg [aB a.Low.Num.Negative, sU32 a.Low.Num.Groups, aB a.Low.Den.Negative, sU32 a.Low.Den.Groups], .agg [aB a.High.Num.Negative, sU32 a.High.Num.Groups, aB a.High.Den.Negative, sU32 a.High.Den.Groups]]) rfl (SnL.cons (Sn.pure rfl) (SnL.cons (Sn.pure rfl) SnL.nil)) (fiducialref02_Compare_ok n a.Low a.High v7 hc8)), ce0⟩)⟩)⟩)) ?_
   refine EVO.p1 (.hp 0 0) ?_
   refine EVO.p1 (.agg [aB a.Low.Num.Negative, sU32 a.Low.Num.Groups, aB a.Low.Den.Negative, sU32 a.Low.Den.Groups]) ?_
   refine EVO.c0 (by kernel_rfl) (callOf_at (by kernel_rfl)) ?_
   refine EVO.p1 (aB true) ?_
   refine EVO.q1 (.hp 0 4) ?_
   refine EVO.q1 (.agg [aB a.High.Num.Negative, sU32 a.High.Num.Groups, aB a.High.Den.Negative, sU32 a.High.Den.Groups]) ?_
   refine EVO.cal (by kernel_rfl) (by kernel_rfl) (callOf_skip (fun _ h => by obtain e0 := fiducialref02_Valid_inj h; rw [show true = true from Option.some.inj (hc5.symm.trans ((show fiducialref02_Valid n a.High = fiducialref02_Valid n a.Low from (congr rfl e0)).trans hc2))]) (callOf_at (by kernel_rfl))) ?_
   refine EVO.p1 (aB true) ?_
   refine EVO.p1 (aB true) ?_
   refine EVO.q1 (.hp 0 0) ?_
   refine EVO.q1 (.agg [aB a.Low.Num.Negative, sU32 a.Low.Num.Groups, aB a.Low.Den.Negative, sU32 a.Low.Den.Groups]) ?_
   refine EVO.q1 (.hp 0 4) ?_
   refine EVO.q1 (.agg [aB a.High.Num.Negative, sU32 a.High.Num.Groups, aB a.High.Den.Negative, sU32 a.High.Den.Groups]) ?_
   refine EVO.cal (by kernel_rfl) (by kernel_rfl) (callOf_skip (fun h _ => absurd (show (40 : Nat) = 39 from h) (by decide)) (callOf_skip (fun h _ => absurd (show (40 : Nat) = 39 from h) (by decide)) (callOf_at (by kernel_rfl)))) ?_
   refine EVO.q1 (aB (decide (v7 ≤ 0))) ?_
   refine EVO.p1 (aB (decide (v7 ≤ 0))) ?_
   refine EVO.p1 (aB (decide (v7 ≤ 0))) ?_
   refine EVO.done ?_
   refine CQ.ret ?_
   obtain rfl := Option.some.inj hr
   exact FinQ.r1 [aB (decide (v7 ≤ 0))]
  ·subst hb6
   replace hr := cd_f rfl hr
   refine CQ.region fine (callOf_ok [{ f := 39, args := [.agg [aB a.Low.Num.Negative, sU32 a.Low.Num.Groups, aB a.Low.Den.Negative, sU32 a.Low.Den.Groups]], H := [.own [aB a.Low.Num.Negative, sU32 a.Low.Num.Groups, aB a.Low.Den.Negative, sU32 a.Low.Den.Groups, aB a.High.Num.Negative, sU32 a.High.Num.Groups, aB a.High.Den.Negative, sU32 a.High.Den.Groups]], r := .loc (aB true) [] [] 0 : CE }, { f := 39, args := [.agg [aB a.High.Num.Negative, sU32 a.High.Num.Groups, aB a.High.Den.Negative, sU32 a.High.Den.Groups]], H := [.own [aB a.Low.Num.Negative, sU32 a.Low.Num.Groups, aB a.Low.Den.Negative, sU32 a.Low.Den.Groups, aB a.High.Num.Negative, sU32 a.High.Num.Groups, aB a.High.Den.Negative, sU32 a.High.Den.Groups]], r := .loc (aB false) [] [] 0 : CE }] (List.forall_mem_cons.2 ⟨(callOk_val (l := []) (args' := [.agg [aB a.Low.Num.Negative, sU32 a.Low.Num.Groups, aB a.Low.Den.Negative, sU32 a.Low.Den.Groups]]) rfl (SnL.cons (Sn.pure rfl) SnL.nil) (fiducialref02_Valid_ok n a.Low true hc2)), (List.forall_mem_cons.2 ⟨(callOk_val (l := []) (args' := [.agg [aB a.High.Num.Negative, sU32 a.High.Num.Groups, aB a.High.Den.Negative, sU32 a.High.Den.Groups]]) rfl (SnL.cons (Sn.pure rfl) SnL.nil) (fiducialref02_Valid_ok n a.High false hc5)), ce0⟩)⟩)) ?_
   refine EVO.p1 (.hp 0 0) ?_
   refine EVO.p1 (.agg [aB a.Low.Num.Negative, sU32 a.Low.Num.Groups, aB a.Low.Den.Negative, sU32 a.Low.Den.Groups]) ?_
   refine EVO.c0 (by kernel_rfl) (callOf_at (by kernel_rfl)) ?_
   refine EVO.p1 (aB true) ?_
   refine EVO.q1 (.hp 0 4) ?_
   refine EVO.q1 (.agg [aB a.High.Num.Negative, sU32 a.High.Num.Groups, aB a.High.Den.Negative, sU32 a.High.Den.Groups]) ?_
   refine EVO.cal (by kernel_rfl) (by kernel_rfl) (callOf_skip (fun _ h => by obtain e0 := fiducialref02_Valid_inj h; rw [show false = true from Option.some.inj (hc5.symm.trans ((show fiducialref02_Valid n a.High = fiducialref02_Valid n a.Low from (congr rfl e0)).trans hc2))]) (callOf_at (by kernel_rfl))) ?_
   refine EVO.p1 (aB false) ?_
   refine EVO.p1 (aB false) ?_
   refine EVO.s1 ?_
   refine EVO.s1 ?_
   refine EVO.s1 ?_
   refine EVO.s1 ?_
   refine EVO.s1 ?_
   refine EVO.s1 ?_
   refine EVO.p1 (aB false) ?_
   refine EVO.p1 (aB false) ?_
   refine EVO.done ?_
   refine CQ.ret ?_
   obtain rfl := Option.some.inj hr
   exact FinQ.r1 [aB false]
 ·subst hb3
  replace hr := cd_f rfl hr
  refine CQ.region fine (callOf_1 39 [.agg [aB a.Low.Num.Negative, sU32 a.Low.Num.Groups, aB a.Low.Den.Negative, sU32 a.Low.Den.Groups]] [.own [aB a.Low.Num.Negative, sU32 a.Low.Num.Groups, aB a.Low.Den.Negative, sU32 a.Low.Den.Groups, aB a.High.Num.Negative, sU32 a.High.Num.Groups, aB a.High.Den.Negative, sU32 a.High.Den.Groups]] (.loc (aB false) [] [] 0) (callOk_val (l := []) (args' := [.agg [aB a.Low.Num.Negative, sU32 a.Low.Num.Groups, aB a.Low.Den.Negative, sU32 a.Low.Den.Groups]]) rfl (SnL.cons (Sn.pure rfl) SnL.nil) (fiducialref02_Valid_ok n a.Low false hc2))) ?_
  refine EVO.p1 (.hp 0 0) ?_
  refine EVO.p1 (.agg [aB a.Low.Num.Negative, sU32 a.Low.Num.Groups, aB a.Low.Den.Negative, sU32 a.Low.Den.Groups]) ?_
  refine EVO.c0 (by kernel_rfl) (callOf_at (by kernel_rfl)) ?_
  refine EVO.p1 (aB false) ?_
  refine EVO.s1 ?_
  refine EVO.s1 ?_
  refine EVO.s1 ?_
  refine EVO.p1 (aB false) ?_
  refine EVO.p1 (aB false) ?_
  refine EVO.s1 ?_
  refine EVO.s1 ?_
  refine EVO.s1 ?_
  refine EVO.s1 ?_
  refine EVO.s1 ?_
  refine EVO.s1 ?_
  refine EVO.p1 (aB false) ?_
  refine EVO.p1 (aB false) ?_
  refine EVO.done ?_
  refine CQ.ret ?_
  obtain rfl := Option.some.inj hr
  exact FinQ.r1 [aB false]

theorem fiducialref02_Same_inj {x' : api_Rat} {y : api_Rat} {x'_ : api_Rat} {y_ : api_Rat} (h : ([.agg [.at (.bool x'.Num.Negative), slT (iC .u32) x'.Num.Groups, .at (.bool x'.Den.Negative), slT (iC .u32) x'.Den.Groups], .agg [.at (.bool y.Num.Negative), slT (iC .u32) y.Num.Groups, .at (.bool y.Den.Negative), slT (iC .u32) y.Den.Groups]] : List AV) = [.agg [.at (.bool x'_.Num.Negative), slT (iC .u32) x'_.Num.Groups, .at (.bool x'_.Den.Negative), slT (iC .u32) x'_.Den.Groups], .agg [.at (.bool y_.Num.Negative), slT (iC .u32) y_.Num.Groups, .at (.bool y_.Den.Negative), slT (iC .u32) y_.Den.Groups]]) : x' = x'_ ∧ y = y_ := by
 obtain ⟨⟨_, _⟩, ⟨_, _⟩⟩ := x'
 obtain ⟨⟨_, _⟩, ⟨_, _⟩⟩ := x'_
 obtain ⟨⟨_, _⟩, ⟨_, _⟩⟩ := y
 obtain ⟨⟨_, _⟩, ⟨_, _⟩⟩ := y_
 simp only [List.cons.injEq, AV.agg.injEq, AV.at.injEq, Value.int.injEq, Value.bool.injEq, AV.fn.injEq, AV.pp.injEq, true_and, and_true, slT_inj_int] at h
 simp_all
theorem fiducialref02_Same_ok (n : Nat) (x' : api_Rat) (y : api_Rat) (r : Bool) (hr : fiducialref02_Same n x' y = some r) : FnOk Try.prog 41 [.agg [.at (.bool x'.Num.Negative), slT (iC .u32) x'.Num.Groups, .at (.bool x'.Den.Negative), slT (iC .u32) x'.Den.Groups], .agg [.at (.bool y.Num.Negative), slT (iC .u32) y.Num.Groups, .at (.bool y.Den.Negative), slT (iC .u32) y.Den.Groups]] (.at (.bool r)) := by
 unfold fiducialref02_Same at hr
 refine FnOk.body fine Try.func41 (c := (Try.f41.body).getD .skip) rfl (s := mkS 17 0 [(0, .agg [aB x'.Num.Negative, sU32 x'.Num.Groups, aB x'.Den.Negative, sU32 x'.Den.Groups]), (1, .agg [aB y.Num.Negative, sU32 y.Num.Groups, aB y.Den.Negative, sU32 y.Den.Groups])]) (by kernel_rfl) (rs := [.tmp 4]) rfl ?_
 unfold Try.f41
 simp only [Option.getD_some]
 refine CQ.seq ?_
 refine CQ.r0 fine ?_
 refine EVO.e1 (.hp 0 0) [(0, .own [aB x'.Num.Negative, sU32 x'.Num.Groups, aB x'.Den.Negative, sU32 x'.Den.Groups])] ?_
 refine EVO.e1 (.hp 1 0) [(1, .own [aB y.Num.Negative, sU32 y.Num.Groups, aB y.Den.Negative, sU32 y.Den.Groups])] ?_
 refine EVO.p1 (aB false) ?_
 refine EVO.done ?_
 refine CQ.n1 [2, 3] (mkS 17 0 [(2, .hp 0 0), (3, .hp 1 0)]) [.own [aB x'.Num.Negative, sU32 x'.Num.Groups, aB x'.Den.Negative, sU32 x'.Den.Groups], .own [aB y.Num.Negative, sU32 y.Num.Groups, aB y.Den.Negative, sU32 y.Den.Groups]] ?_
 refine CQ.seq ?_
 replace hr := bd hr; obtain ⟨v1, hc2, hr⟩ := hr
 rcases Bool.eq_false_or_eq_true v1 with hb3 | hb3
 ·subst hb3
  replace hr := cd_t rfl hr
  replace hr := bd hr; obtain ⟨v4, hc5, hr⟩ := hr
  rcases Bool.eq_false_or_eq_true v4 with hb6 | hb6
  ·subst hb6
   replace hr := cd_t rfl hr
   replace hr := bd hr; obtain ⟨v7, hc8, hr⟩ := hr
   refine CQ.region fine (callOf_ok [{ f := 39, args := [.agg [aB x'.Num.Negative, sU32 x'.Num.Groups, aB x'.Den.Negative, sU32 x'.Den.Groups]], H := [.own [aB x'.Num.Negative, sU32 x'.Num.Groups, aB x'.Den.Negative, sU32 x'.Den.Groups], .own [aB y.Num.Negative, sU32 y.Num.Groups, aB y.Den.Negative, sU32 y.Den.Groups]], r := .loc (aB true) [] [] 0 : CE }, { f := 39, args := [.agg [aB y.Num.Negative, sU32 y.Num.Groups, aB y.Den.Negative, sU32 y.Den.Groups]], H := [.own [aB x'.Num.Negative, sU32 x'.Num.Groups, aB x'.Den.Negative, sU32 x'.Den.Groups], .own [aB y.Num.Negative, sU32 y.Num.Groups, aB y.Den.Negative, sU32 y.Den.Groups]], r := .loc (aB true) [] [] 0 : CE }, { f := 40, args := [.agg [aB x'.Num.Negative, sU32 x'.Num.Groups, aB x'.Den.Negative, sU32 x'.Den.Groups], .agg [aB y.Num.Negative, sU32 y.Num.Groups, aB y.Den.Negative, sU32 y.Den.Groups]], H := [.own [aB x'.Num.Negative, sU32 x'.Num.Groups, aB x'.Den.Negative, sU32 x'.Den.Groups], .own [aB y.Num.Negative, sU32 y.Num.Groups, aB y.Den.Negative, sU32 y.Den.Groups]], r := .loc (aI64 v7) [] [] 0 : CE }] (List.forall_mem_cons.2 ⟨(callOk_val (l := []) (args' := [.agg [aB x'.Num.Negative, sU32 x'.Num.Groups, aB x'.Den.Negative, sU32 x'.Den.Groups]]) rfl (SnL.cons (Sn.pure rfl) SnL.nil) (fiducialref02_Valid_ok n x' true hc2)), (List.forall_mem_cons.2 ⟨(callOk_val (l := []) (args' := [.agg [aB y.Num.Negative, sU32 y.Num.Groups, aB y.Den.Negative, sU32 y.Den.Groups]]) rfl (SnL.cons (Sn.pure rfl) SnL.nil) (fiducialref02_Valid_ok n y true hc5)), (List.forall_mem_cons.2 ⟨(callOk_val (l := []) (args' := [.agg [aB x'.Num.Negative, sU32 x'.Num.Groups, aB x'.Den.Negative, sU32 x'.Den.Groups], .agg [aB y.Num.Negative, sU32 y.Num.Groups, aB y.Den.Negative, sU32 y.Den.Groups]]) rfl (SnL.cons (Sn.pure rfl) (SnL.cons (Sn.pure rfl) SnL.nil)) (fiducialref02_Compare_ok n x' y v7 hc8)), ce0⟩)⟩)⟩)) ?_
   refine EVO.p1 (.agg [aB x'.Num.Negative, sU32 x'.Num.Groups, aB x'.Den.Negative, sU32 x'.Den.Groups]) ?_
   refine EVO.c0 (by kernel_rfl) (callOf_at (by kernel_rfl)) ?_
   refine EVO.p1 (aB true) ?_
   refine EVO.q1 (.agg [aB y.Num.Negative, sU32 y.Num.Groups, aB y.Den.Negative, sU32 y.Den.Groups]) ?_
   refine EVO.cal (by kernel_rfl) (by kernel_rfl) (callOf_skip (fun _ h => by obtain e0 := fiducialref02_Valid_inj h; rw [show true = true from Option.some.inj (hc5.symm.trans ((show fiducialref02_Valid n y = fiducialref02_Valid n x' from (congr rfl e0)).trans hc2))]) (callOf_at (by kernel_rfl))) ?_
   refine EVO.p1 (aB true) ?_
   refine EVO.p1 (aB true) ?_
   refine EVO.q1 (.agg [aB x'.Num.Negative, sU32 x'.Num.Groups, aB x'.Den.Negative, sU32 x'.Den.Groups]) ?_
   refine EVO.q1 (.agg [aB y.Num.Negative, sU32 y.Num.Groups, aB y.Den.Negative, sU32 y.Den.Groups]) ?_
   refine EVO.cal (by kernel_rfl) (by kernel_rfl) (callOf_skip (fun h _ => absurd (show (40 : Nat) = 39 from h) (by decide)) (callOf_skip (fun h _ => absurd (show (40 : Nat) = 39 from h) (by decide)) (callOf_at (by kernel_rfl)))) ?_
   refine EVO.q1 (aB ((v7 : Int) == 0)) ?_
   refine EVO.p1 (aB ((v7 : Int) == 0)) ?_
   refine EVO.p1 (aB ((v7 : Int) == 0)) ?_
   refine EVO.done ?_
   refine CQ.ret ?_
   obtain rfl := Option.some.inj hr
   exact FinQ.r1 [aB ((v7 : Int) == 0)]
  ·subst hb6
   replace hr := cd_f rfl hr
   refine CQ.region fine (callOf_ok [{ f := 39, args := [.agg [aB x'.Num.Negative, sU32 x'.Num.Groups, aB x'.Den.Negative, sU32 x'.Den.Groups]], H := [.own [aB x'.Num.Negative, sU32 x'.Num.Groups, aB x'.Den.Negative, sU32 x'.Den.Groups], .own [aB y.Num.Negative, sU32 y.Num.Groups, aB y.Den.Negative, sU32 y.Den.Groups]], r := .loc (aB true) [] [] 0 : CE }, { f := 39, args := [.agg [aB y.Num.Negative, sU32 y.Num.Groups, aB y.Den.Negative, sU32 y.Den.Groups]], H := [.own [aB x'.Num.Negative, sU32 x'.Num.Groups, aB x'.Den.Negative, sU32 x'.Den.Groups], .own [aB y.Num.Negative, sU32 y.Num.Groups, aB y.Den.Negative, sU32 y.Den.Groups]], r := .loc (aB false) [] [] 0 : CE }] (List.forall_mem_cons.2 ⟨(callOk_val (l := []) (args' := [.agg [aB x'.Num.Negative, sU32 x'.Num.Groups, aB x'.Den.Negative, sU32 x'.Den.Groups]]) rfl (SnL.cons (Sn.pure rfl) SnL.nil) (fiducialref02_Valid_ok n x' true hc2)), (List.forall_mem_cons.2 ⟨(callOk_val (l := []) (args' := [.agg [aB y.Num.Negative, sU32 y.Num.Groups, aB y.Den.Negative, sU32 y.Den.Groups]]) rfl (SnL.cons (Sn.pure rfl) SnL.nil) (fiducialref02_Valid_ok n y false hc5)), ce0⟩)⟩)) ?_
   refine EVO.p1 (.agg [aB x'.Num.Negative, sU32 x'.Num.Groups, aB x'.Den.Negative, sU32 x'.Den.Groups]) ?_
   refine EVO.c0 (by kernel_rfl) (callOf_at (by kernel_rfl)) ?_
   refine EVO.p1 (aB true) ?_
   refine EVO.q1 (.agg [aB y.Num.Negative, sU32 y.Num.Groups, aB y.Den.Negative, sU32 y.Den.Groups]) ?_
   refine EVO.cal (by kernel_rfl) (by kernel_rfl) (callOf_skip (fun _ h => by obtain e0 := fiducialref02_Valid_inj h; rw [show false = true from Option.some.inj (hc5.symm.trans ((show fiducialref02_Valid n y = fiducialref02_Valid n x' from (congr rfl e0)).trans hc2))]) (callOf_at (by kernel_rfl))) ?_
   refine EVO.p1 (aB false) ?_
   refine EVO.p1 (aB false) ?_
   refine EVO.s1 ?_
   refine EVO.s1 ?_
   refine EVO.s1 ?_
   refine EVO.s1 ?_
   refine EVO.p1 (aB false) ?_
   refine EVO.p1 (aB false) ?_
   refine EVO.done ?_
   refine CQ.ret ?_
   obtain rfl := Option.some.inj hr
   exact FinQ.r1 [aB false]
 ·subst hb3
  replace hr := cd_f rfl hr
  refine CQ.region fine (callOf_1 39 [.agg [aB x'.Num.Negative, sU32 x'.Num.Groups, aB x'.Den.Negative, sU32 x'.Den.Groups]] [.own [aB x'.Num.Negative, sU32 x'.Num.Groups, aB x'.Den.Negative, sU32 x'.Den.Groups], .own [aB y.Num.Negative, sU32 y.Num.Groups, aB y.Den.Negative, sU32 y.Den.Groups]] (.loc (aB false) [] [] 0) (callOk_val (l := []) (args' := [.agg [aB x'.Num.Negative, sU32 x'.Num.Groups, aB x'.Den.Negative, sU32 x'.Den.Groups]]) rfl (SnL.cons (Sn.pure rfl) SnL.nil) (fiducialref02_Valid_ok n x' false hc2))) ?_
  refine EVO.p1 (.agg [aB x'.Num.Negative, sU32 x'.Num.Groups, aB x'.Den.Negative, sU32 x'.Den.Groups]) ?_
  refine EVO.c0 (by kernel_rfl) (callOf_at (by kernel_rfl)) ?_
  refine EVO.p1 (aB false) ?_
  refine EVO.s1 ?_
  refine EVO.s1 ?_
  refine EVO.p1 (aB false) ?_
  refine EVO.p1 (aB false) ?_
  refine EVO.s1 ?_
  refine EVO.s1 ?_
  refine EVO.s1 ?_
  refine EVO.s1 ?_
  refine EVO.p1 (aB false) ?_
  refine EVO.p1 (aB false) ?_
  refine EVO.done ?_
  refine CQ.ret ?_
  obtain rfl := Option.some.inj hr
  exact FinQ.r1 [aB false]

theorem fiducialref02_SameRange_ok (n : Nat) (a : api_Range) (b : api_Range) (r : Bool) (hr : fiducialref02_SameRange n a b = some r) : FnOk Try.prog 29 [.agg [.at (.bool a.Low.Num.Negative), slT (iC .u32) a.Low.Num.Groups, .at (.bool a.Low.Den.Negative), slT (iC .u32) a.Low.Den.Groups, .at (.bool a.High.Num.Negative), slT (iC .u32) a.High.Num.Groups, .at (.bool a.High.Den.Negative), slT (iC .u32) a.High.Den.Groups], .agg [.at (.bool b.Low.Num.Negative), slT (iC .u32) b.Low.Num.Groups, .at (.bool b.Low.Den.Negative), slT (iC .u32) b.Low.Den.Groups, .at (.bool b.High.Num.Negative), slT (iC .u32) b.High.Num.Groups, .at (.bool b.High.Den.Negative), slT (iC .u32) b.High.Den.Groups]] (.at (.bool r)) := by
 unfold fiducialref02_SameRange at hr
 refine FnOk.body fine Try.func29 (c := (Try.f29.body).getD .skip) rfl (s := mkS 17 0 [(0, .agg [aB a.Low.Num.Negative, sU32 a.Low.Num.Groups, aB a.Low.Den.Negative, sU32 a.Low.Den.Groups, aB a.High.Num.Negative, sU32 a.High.Num.Groups, aB a.High.Den.Negative, sU32 a.High.Den.Groups]), (1, .agg [aB b.Low.Num.Negative, sU32 b.Low.Num.Groups, aB b.Low.Den.Negative, sU32 b.Low.Den.Groups, aB b.High.Num.Negative, sU32 b.High.Num.Groups, aB b.High.Den.Negative, sU32 b.High.Den.Groups])]) (by kernel_rfl) (rs := [.tmp 4]) rfl ?_
 unfold Try.f29
 simp only [Option.getD_some]
 refine CQ.seq ?_
 refine CQ.r0 fine ?_
 refine EVO.e1 (.hp 0 0) [(0, .own [aB a.Low.Num.Negative, sU32 a.Low.Num.Groups, aB a.Low.Den.Negative, sU32 a.Low.Den.Groups, aB a.High.Num.Negative, sU32 a.High.Num.Groups, aB a.High.Den.Negative, sU32 a.High.Den.Groups])] ?_
 refine EVO.e1 (.hp 1 0) [(1, .own [aB b.Low.Num.Negative, sU32 b.Low.Num.Groups, aB b.Low.Den.Negative, sU32 b.Low.Den.Groups, aB b.High.Num.Negative, sU32 b.High.Num.Groups, aB b.High.Den.Negative, sU32 b.High.Den.Groups])] ?_
 refine EVO.p1 (aB false) ?_
 refine EVO.done ?_
 refine CQ.n1 [2, 3] (mkS 17 0 [(2, .hp 0 0), (3, .hp 1 0)]) [.own [aB a.Low.Num.Negative, sU32 a.Low.Num.Groups, aB a.Low.Den.Negative, sU32 a.Low.Den.Groups, aB a.High.Num.Negative, sU32 a.High.Num.Groups, aB a.High.Den.Negative, sU32 a.High.Den.Groups], .own [aB b.Low.Num.Negative, sU32 b.Low.Num.Groups, aB b.Low.Den.Negative, sU32 b.Low.Den.Groups, aB b.High.Num.Negative, sU32 b.High.Num.Groups, aB b.High.Den.Negative, sU32 b.High.Den.Groups]] ?_
 refine CQ.seq ?_
 replace hr := bd hr; obtain ⟨v1, hc2, hr⟩ := hr
 rcases Bool.eq_false_or_eq_true v1 with hb3 | hb3
 ·subst hb3
  replace hr := cd_t rfl hr
  replace hr := bd hr; obtain ⟨v4, hc5, hr⟩ := hr
  refine CQ.region fine (callOf_ok [{ f := 41, args := [.agg [aB a.Low.Num.Negative, sU32 a.Low.Num.Groups, aB a.Low.Den.Negative, sU32 a.Low.Den.Groups], .agg [aB b.Low.Num.Negative, sU32 b.Low.Num.Groups, aB b.Low.Den.Negative, sU32 b.Low.Den.Groups]], H := [.own [aB a.Low.Num.Negative, sU32 a.Low.Num.Groups, aB a.Low.Den.Negative, sU32 a.Low.Den.Groups, aB a.High.Num.Negative, sU32 a.High.Num.Groups, aB a.High.Den.Negative, sU32 a.High.Den.Groups], .own [aB b.Low.Num.Negative, sU32 b.Low.Num.Groups, aB b.Low.Den.Negative, sU32 b.Low.Den.Groups, aB b.High.Num.Negative, sU32 b.High.Num.Groups, aB b.High.Den.Negative, sU32 b.High.Den.Groups]], r := .loc (aB true) [] [] 0 : CE }, { f := 41, args := [.agg [aB a.High.Num.Negative, sU32 a.High.Num.Groups, aB a.High.Den.Negative, sU32 a.High.Den.Groups], .agg [aB b.High.Num.Negative, sU32 b.High.Num.Groups, aB b.High.Den.Negative, sU32 b.High.Den.Groups]], H := [.own [aB a.Low.Num.Negative, sU32 a.Low.Num.Groups, aB a.Low.Den.Negative, sU32 a.Low.Den.Groups, aB a.High.Num.Negative, sU32 a.High.Num.Groups, aB a.High.Den.Negative, sU32 a.High.Den.Groups], .own [aB b.Low.Num.Negative, sU32 b.Low.Num.Groups, aB b.Low.Den.Negative, sU32 b.Low.Den.Groups, aB b.High.Num.Negative, sU32 b.High.Num.Groups, aB b.High.Den.Negative, sU32 b.High.Den.Groups]], r := .loc (aB v4) [] [] 0 : CE }] (List.forall_mem_cons.2 ⟨(callOk_val (l := []) (args' := [.agg [aB a.Low.Num.Negative, sU32 a.Low.Num.Groups, aB a.Low.Den.Negative, sU32 a.Low.Den.Groups], .agg [aB b.Low.Num.Negative, sU32 b.Low.Num.Groups, aB b.Low.Den.Negative, sU32 b.Low.Den.Groups]]) rfl (SnL.cons (Sn.pure rfl) (SnL.cons (Sn.pure rfl) SnL.nil)) (fiducialref02_Same_ok n a.Low b.Low true hc2)), (List.forall_mem_cons.2 ⟨(callOk_val (l := []) (args' := [.agg [aB a.High.Num.Negative, sU32 a.High.Num.Groups, aB a.High.Den.Negative, sU32 a.High.Den.Groups], .agg [aB b.High.Num.Negative, sU32 b.High.Num.Groups, aB b.High.Den.Negative, sU32 b.High.Den.Groups]]) rfl (SnL.cons (Sn.pure rfl) (SnL.cons (Sn.pure rfl) SnL.nil)) (fiducialref02_Same_ok n a.High b.High v4 hc5)), ce0⟩)⟩)) ?_
  refine EVO.p1 (.hp 0 0) ?_
  refine EVO.p1 (.agg [aB a.Low.Num.Negative, sU32 a.Low.Num.Groups, aB a.Low.Den.Negative, sU32 a.Low.Den.Groups]) ?_
  refine EVO.p1 (.hp 1 0) ?_
  refine EVO.p1 (.agg [aB b.Low.Num.Negative, sU32 b.Low.Num.Groups, aB b.Low.Den.Negative, sU32 b.Low.Den.Groups]) ?_
  refine EVO.c0 (by kernel_rfl) (callOf_at (by kernel_rfl)) ?_
  refine EVO.p1 (aB true) ?_
  refine EVO.q1 (.hp 0 4) ?_
  refine EVO.q1 (.agg [aB a.High.Num.Negative, sU32 a.High.Num.Groups, aB a.High.Den.Negative, sU32 a.High.Den.Groups]) ?_
  refine EVO.q1 (.hp 1 4) ?_
  refine EVO.q1 (.agg [aB b.High.Num.Negative, sU32 b.High.Num.Groups, aB b.High.Den.Negative, sU32 b.High.Den.Groups]) ?_
  refine EVO.cal (by kernel_rfl) (by kernel_rfl) (callOf_skip (fun _ h => by obtain ⟨e0, e1⟩ := fiducialref02_Same_inj h; rw [show v4 = true from Option.some.inj (hc5.symm.trans ((show fiducialref02_Same n a.High b.High = fiducialref02_Same n a.Low b.Low from (congr (congr rfl e0) e1)).trans hc2))]) (callOf_at (by kernel_rfl))) ?_
  refine EVO.p1 (aB v4) ?_
  refine EVO.p1 (aB v4) ?_
  refine EVO.done ?_
  refine CQ.ret ?_
  obtain rfl := Option.some.inj hr
  exact FinQ.r1 [aB v4]
 ·subst hb3
  replace hr := cd_f rfl hr
  refine CQ.region fine (callOf_1 41 [.agg [aB a.Low.Num.Negative, sU32 a.Low.Num.Groups, aB a.Low.Den.Negative, sU32 a.Low.Den.Groups], .agg [aB b.Low.Num.Negative, sU32 b.Low.Num.Groups, aB b.Low.Den.Negative, sU32 b.Low.Den.Groups]] [.own [aB a.Low.Num.Negative, sU32 a.Low.Num.Groups, aB a.Low.Den.Negative, sU32 a.Low.Den.Groups, aB a.High.Num.Negative, sU32 a.High.Num.Groups, aB a.High.Den.Negative, sU32 a.High.Den.Groups], .own [aB b.Low.Num.Negative, sU32 b.Low.Num.Groups, aB b.Low.Den.Negative, sU32 b.Low.Den.Groups, aB b.High.Num.Negative, sU32 b.High.Num.Groups, aB b.High.Den.Negative, sU32 b.High.Den.Groups]] (.loc (aB false) [] [] 0) (callOk_val (l := []) (args' := [.agg [aB a.Low.Num.Negative, sU32 a.Low.Num.Groups, aB a.Low.Den.Negative, sU32 a.Low.Den.Groups], .agg [aB b.Low.Num.Negative, sU32 b.Low.Num.Groups, aB b.Low.Den.Negative, sU32 b.Low.Den.Groups]]) rfl (SnL.cons (Sn.pure rfl) (SnL.cons (Sn.pure rfl) SnL.nil)) (fiducialref02_Same_ok n a.Low b.Low false hc2))) ?_
  refine EVO.p1 (.hp 0 0) ?_
  refine EVO.p1 (.agg [aB a.Low.Num.Negative, sU32 a.Low.Num.Groups, aB a.Low.Den.Negative, sU32 a.Low.Den.Groups]) ?_
  refine EVO.p1 (.hp 1 0) ?_
  refine EVO.p1 (.agg [aB b.Low.Num.Negative, sU32 b.Low.Num.Groups, aB b.Low.Den.Negative, sU32 b.Low.Den.Groups]) ?_
  refine EVO.c0 (by kernel_rfl) (callOf_at (by kernel_rfl)) ?_
  refine EVO.p1 (aB false) ?_
  refine EVO.s1 ?_
  refine EVO.s1 ?_
  refine EVO.s1 ?_
  refine EVO.s1 ?_
  refine EVO.s1 ?_
  refine EVO.p1 (aB false) ?_
  refine EVO.p1 (aB false) ?_
  refine EVO.done ?_
  refine CQ.ret ?_
  obtain rfl := Option.some.inj hr
  exact FinQ.r1 [aB false]

theorem fiducialref03_Same_inj {a : api_Range} {b : api_Range} {a_ : api_Range} {b_ : api_Range} (h : ([.agg [.at (.bool a.Low.Num.Negative), slT (iC .u32) a.Low.Num.Groups, .at (.bool a.Low.Den.Negative), slT (iC .u32) a.Low.Den.Groups, .at (.bool a.High.Num.Negative), slT (iC .u32) a.High.Num.Groups, .at (.bool a.High.Den.Negative), slT (iC .u32) a.High.Den.Groups], .agg [.at (.bool b.Low.Num.Negative), slT (iC .u32) b.Low.Num.Groups, .at (.bool b.Low.Den.Negative), slT (iC .u32) b.Low.Den.Groups, .at (.bool b.High.Num.Negative), slT (iC .u32) b.High.Num.Groups, .at (.bool b.High.Den.Negative), slT (iC .u32) b.High.Den.Groups]] : List AV) = [.agg [.at (.bool a_.Low.Num.Negative), slT (iC .u32) a_.Low.Num.Groups, .at (.bool a_.Low.Den.Negative), slT (iC .u32) a_.Low.Den.Groups, .at (.bool a_.High.Num.Negative), slT (iC .u32) a_.High.Num.Groups, .at (.bool a_.High.Den.Negative), slT (iC .u32) a_.High.Den.Groups], .agg [.at (.bool b_.Low.Num.Negative), slT (iC .u32) b_.Low.Num.Groups, .at (.bool b_.Low.Den.Negative), slT (iC .u32) b_.Low.Den.Groups, .at (.bool b_.High.Num.Negative), slT (iC .u32) b_.High.Num.Groups, .at (.bool b_.High.Den.Negative), slT (iC .u32) b_.High.Den.Groups]]) : a = a_ ∧ b = b_ := by
 obtain ⟨⟨⟨_, _⟩, ⟨_, _⟩⟩, ⟨⟨_, _⟩, ⟨_, _⟩⟩⟩ := a
 obtain ⟨⟨⟨_, _⟩, ⟨_, _⟩⟩, ⟨⟨_, _⟩, ⟨_, _⟩⟩⟩ := a_
 obtain ⟨⟨⟨_, _⟩, ⟨_, _⟩⟩, ⟨⟨_, _⟩, ⟨_, _⟩⟩⟩ := b
 obtain ⟨⟨⟨_, _⟩, ⟨_, _⟩⟩, ⟨⟨_, _⟩, ⟨_, _⟩⟩⟩ := b_
 simp only [List.cons.injEq, AV.agg.injEq, AV.at.injEq, Value.int.injEq, Value.bool.injEq, AV.fn.injEq, AV.pp.injEq, true_and, and_true, slT_inj_int] at h
 simp_all
theorem fiducialref03_Same_ok (n : Nat) (a : api_Range) (b : api_Range) (r : Bool) (hr : fiducialref03_Same n a b = some r) : FnOk Try.prog 18 [.agg [.at (.bool a.Low.Num.Negative), slT (iC .u32) a.Low.Num.Groups, .at (.bool a.Low.Den.Negative), slT (iC .u32) a.Low.Den.Groups, .at (.bool a.High.Num.Negative), slT (iC .u32) a.High.Num.Groups, .at (.bool a.High.Den.Negative), slT (iC .u32) a.High.Den.Groups], .agg [.at (.bool b.Low.Num.Negative), slT (iC .u32) b.Low.Num.Groups, .at (.bool b.Low.Den.Negative), slT (iC .u32) b.Low.Den.Groups, .at (.bool b.High.Num.Negative), slT (iC .u32) b.High.Num.Groups, .at (.bool b.High.Den.Negative), slT (iC .u32) b.High.Den.Groups]] (.at (.bool r)) := by
 unfold fiducialref03_Same at hr
 refine FnOk.body fine Try.func18 (c := (Try.f18.body).getD .skip) rfl (s := mkS 16 0 [(0, .agg [aB a.Low.Num.Negative, sU32 a.Low.Num.Groups, aB a.Low.Den.Negative, sU32 a.Low.Den.Groups, aB a.High.Num.Negative, sU32 a.High.Num.Groups, aB a.High.Den.Negative, sU32 a.High.Den.Groups]), (1, .agg [aB b.Low.Num.Negative, sU32 b.Low.Num.Groups, aB b.Low.Den.Negative, sU32 b.Low.Den.Groups, aB b.High.Num.Negative, sU32 b.High.Num.Groups, aB b.High.Den.Negative, sU32 b.High.Den.Groups])]) (by kernel_rfl) (rs := [.tmp 4]) rfl ?_
 unfold Try.f18
 simp only [Option.getD_some]
 refine CQ.seq ?_
 refine CQ.r0 fine ?_
 refine EVO.e1 (.hp 0 0) [(0, .own [aB a.Low.Num.Negative, sU32 a.Low.Num.Groups, aB a.Low.Den.Negative, sU32 a.Low.Den.Groups, aB a.High.Num.Negative, sU32 a.High.Num.Groups, aB a.High.Den.Negative, sU32 a.High.Den.Groups])] ?_
 refine EVO.e1 (.hp 1 0) [(1, .own [aB b.Low.Num.Negative, sU32 b.Low.Num.Groups, aB b.Low.Den.Negative, sU32 b.Low.Den.Groups, aB b.High.Num.Negative, sU32 b.High.Num.Groups, aB b.High.Den.Negative, sU32 b.High.Den.Groups])] ?_
 refine EVO.p1 (aB false) ?_
 refine EVO.done ?_
 refine CQ.n1 [2, 3] (mkS 16 0 [(2, .hp 0 0), (3, .hp 1 0)]) [.own [aB a.Low.Num.Negative, sU32 a.Low.Num.Groups, aB a.Low.Den.Negative, sU32 a.Low.Den.Groups, aB a.High.Num.Negative, sU32 a.High.Num.Groups, aB a.High.Den.Negative, sU32 a.High.Den.Groups], .own [aB b.Low.Num.Negative, sU32 b.Low.Num.Groups, aB b.Low.Den.Negative, sU32 b.Low.Den.Groups, aB b.High.Num.Negative, sU32 b.High.Num.Groups, aB b.High.Den.Negative, sU32 b.High.Den.Groups]] ?_
 refine CQ.seq ?_
 replace hr := bd hr; obtain ⟨v1, hc2, hr⟩ := hr
 rcases Bool.eq_false_or_eq_true v1 with hb3 | hb3
 ·subst hb3
  replace hr := cd_t rfl hr
  replace hr := bd hr; obtain ⟨v4, hc5, hr⟩ := hr
  rcases Bool.eq_false_or_eq_true v4 with hb6 | hb6
  ·subst hb6
   replace hr := cd_t rfl hr
   replace hr := bd hr; obtain ⟨v7, hc8, hr⟩ := hr
   refine CQ.region fine (callOf_ok [{ f := 28, args := [.agg [aB a.Low.Num.Negative, sU32 a.Low.Num.Groups, aB a.Low.Den.Negative, sU32 a.Low.Den.Groups, aB a.High.Num.Negative, sU32 a.High.Num.Groups, aB a.High.Den.Negative, sU32 a.High.Den.Groups]], H := [.own [aB a.Low.Num.Negative, sU32 a.Low.Num.Groups, aB a.Low.Den.Negative, sU32 a.Low.Den.Groups, aB a.High.Num.Negative, sU32 a.High.Num.Groups, aB a.High.Den.Negative, sU32 a.High.Den.Groups], .own [aB b.Low.Num.Negative, sU32 b.Low.Num.Groups, aB b.Low.Den.Negative, sU32 b.Low.Den.Groups, aB b.High.Num.Negative, sU32 b.High.Num.Groups, aB b.High.Den.Negative, sU32 b.High.Den.Groups]], r := .loc (aB true) [] [] 0 : CE }, { f := 28, args := [.agg [aB b.Low.Num.Negative, sU32 b.Low.Num.Groups, aB b.Low.Den.Negative, sU32 b.Low.Den.Groups, aB b.High.Num.Negative, sU32 b.High.Num.Groups, aB b.High.Den.Negative, sU32 b.High.Den.Groups]], H := [.own [aB a.Low.Num.Negative, sU32 a.Low.Num.Groups, aB a.Low.Den.Negative, sU32 a.Low.Den.Groups, aB a.High.Num.Negative, sU32 a.High.Num.Groups, aB a.High.Den.Negative, sU32 a.High.Den.Groups], .own [aB b.Low.Num.Negative, sU32 b.Low.Num.Groups, aB b.Low.Den.Negative, sU32 b.Low.Den.Groups, aB b.High.Num.Negative, sU32 b.High.Num.Groups, aB b.High.Den.Negative, sU32 b.High.Den.Groups]], r := .loc (aB true) [] [] 0 : CE }, { f := 29, args := [.agg [aB a.Low.Num.Negative, sU32 a.Low.Num.Groups, aB a.Low.Den.Negative, sU32 a.Low.Den.Groups, aB a.High.Num.Negative, sU32 a.High.Num.Groups, aB a.High.Den.Negative, sU32 a.High.Den.Groups], .agg [aB b.Low.Num.Negative, sU32 b.Low.Num.Groups, aB b.Low.Den.Negative, sU32 b.Low.Den.Groups, aB b.High.Num.Negative, sU32 b.High.Num.Groups, aB b.High.Den.Negative, sU32 b.High.Den.Groups]], H := [.own [aB a.Low.Num.Negative, sU32 a.Low.Num.Groups, aB a.Low.Den.Negative, sU32 a.Low.Den.Groups, aB a.High.Num.Negative, sU32 a.High.Num.Groups, aB a.High.Den.Negative, sU32 a.High.Den.Groups], .own [aB b.Low.Num.Negative, sU32 b.Low.Num.Groups, aB b.Low.Den.Negative, sU32 b.Low.Den.Groups, aB b.High.Num.Negative, sU32 b.High.Num.Groups, aB b.High.Den.Negative, sU32 b.High.Den.Groups]], r := .loc (aB v7) [] [] 0 : CE }] (List.forall_mem_cons.2 ⟨(callOk_val (l := []) (args' := [.agg [aB a.Low.Num.Negative, sU32 a.Low.Num.Groups, aB a.Low.Den.Negative, sU32 a.Low.Den.Groups, aB a.High.Num.Negative, sU32 a.High.Num.Groups, aB a.High.Den.Negative, sU32 a.High.Den.Groups]]) rfl (SnL.cons (Sn.pure rfl) SnL.nil) (fiducialref03_Valid_ok n a true hc2)), (List.forall_mem_cons.2 ⟨(callOk_val (l := []) (args' := [.agg [aB b.Low.Num.Negative, sU32 b.Low.Num.Groups, aB b.Low.Den.Negative, sU32 b.Low.Den.Groups, aB b.High.Num.Negative, sU32 b.High.Num.Groups, aB b.High.Den.Negative, sU32 b.High.Den.Groups]]) rfl (SnL.cons (Sn.pure rfl) SnL.nil) (fiducialref03_Valid_ok n b true hc5)), (List.forall_mem_cons.2 ⟨(callOk_val (l := []) (args' := [.agg [aB a.Low.Num.Negative, sU32 a.Low.Num.Groups, aB a.Low.Den.Negative, sU32 a.Low.Den.Groups, aB a.High.Num.Negative, sU32 a.High.Num.Groups, aB a.High.Den.Negative, sU32 a.High.Den.Groups], .agg [aB b.Low.Num.Negative, sU32 b.Low.Num.Groups, aB b.Low.Den.Negative, sU32 b.Low.Den.Groups, aB b.High.Num.Negative, sU32 b.High.Num.Groups, aB b.High.Den.Negative, sU32 b.High.Den.Groups]]) rfl (SnL.cons (Sn.pure rfl) (SnL.cons (Sn.pure rfl) SnL.nil)) (fiducialref02_SameRange_ok n a b v7 hc8)), ce0⟩)⟩)⟩)) ?_
   refine EVO.p1 (.agg [aB a.Low.Num.Negative, sU32 a.Low.Num.Groups, aB a.Low.Den.Negative, sU32 a.Low.Den.Groups, aB a.High.Num.Negative, sU32 a.High.Num.Groups, aB a.High.Den.Negative, sU32 a.High.Den.Groups]) ?_
   refine EVO.c0 (by kernel_rfl) (callOf_at (by kernel_rfl)) ?_
   refine EVO.p1 (aB true) ?_
   refine EVO.q1 (.agg [aB b.Low.Num.Negative, sU32 b.Low.Num.Groups, aB b.Low.Den.Negative, sU32 b.Low.Den.Groups, aB b.High.Num.Negative, sU32 b.High.Num.Groups, aB b.High.Den.Negative, sU32 b.High.Den.Groups]) ?_
   refine EVO.cal (by kernel_rfl) (by kernel_rfl) (callOf_skip (fun _ h => by obtain e0 := fiducialref03_Valid_inj h; rw [show true = true from Option.some.inj (hc5.symm.trans ((show fiducialref03_Valid n b = fiducialref03_Valid n a from (congr rfl e0)).trans hc2))]) (callOf_at (by kernel_rfl))) ?_
   refine EVO.p1 (aB true) ?_
   refine EVO.p1 (aB true) ?_
   refine EVO.q1 (.agg [aB a.Low.Num.Negative, sU32 a.Low.Num.Groups, aB a.Low.Den.Negative, sU32 a.Low.Den.Groups, aB a.High.Num.Negative, sU32 a.High.Num.Groups, aB a.High.Den.Negative, sU32 a.High.Den.Groups]) ?_
   refine EVO.q1 (.agg [aB b.Low.Num.Negative, sU32 b.Low.Num.Groups, aB b.Low.Den.Negative, sU32 b.Low.Den.Groups, aB b.High.Num.Negative, sU32 b.High.Num.Groups, aB b.High.Den.Negative, sU32 b.High.Den.Groups]) ?_
   refine EVO.cal (by kernel_rfl) (by kernel_rfl) (callOf_skip (fun h _ => absurd (show (29 : Nat) = 28 from h) (by decide)) (callOf_skip (fun h _ => absurd (show (29 : Nat) = 28 from h) (by decide)) (callOf_at (by kernel_rfl)))) ?_
   refine EVO.p1 (aB v7) ?_
   refine EVO.p1 (aB v7) ?_
   refine EVO.done ?_
   refine CQ.ret ?_
   obtain rfl := Option.some.inj hr
   exact FinQ.r1 [aB v7]
  ·subst hb6
   replace hr := cd_f rfl hr
   refine CQ.region fine (callOf_ok [{ f := 28, args := [.agg [aB a.Low.Num.Negative, sU32 a.Low.Num.Groups, aB a.Low.Den.Negative, sU32 a.Low.Den.Groups, aB a.High.Num.Negative, sU32 a.High.Num.Groups, aB a.High.Den.Negative, sU32 a.High.Den.Groups]], H := [.own [aB a.Low.Num.Negative, sU32 a.Low.Num.Groups, aB a.Low.Den.Negative, sU32 a.Low.Den.Groups, aB a.High.Num.Negative, sU32 a.High.Num.Groups, aB a.High.Den.Negative, sU32 a.High.Den.Groups], .own [aB b.Low.Num.Negative, sU32 b.Low.Num.Groups, aB b.Low.Den.Negative, sU32 b.Low.Den.Groups, aB b.High.Num.Negative, sU32 b.High.Num.Groups, aB b.High.Den.Negative, sU32 b.High.Den.Groups]], r := .loc (aB true) [] [] 0 : CE }, { f := 28, args := [.agg [aB b.Low.Num.Negative, sU32 b.Low.Num.Groups, aB b.Low.Den.Negative, sU32 b.Low.Den.Groups, aB b.High.Num.Negative, sU32 b.High.Num.Groups, aB b.High.Den.Negative, sU32 b.High.Den.Groups]], H := [.own [aB a.Low.Num.Negative, sU32 a.Low.Num.Groups, aB a.Low.Den.Negative, sU32 a.Low.Den.Groups, aB a.High.Num.Negative, sU32 a.High.Num.Groups, aB a.High.Den.Negative, sU32 a.High.Den.Groups], .own [aB b.Low.Num.Negative, sU32 b.Low.Num.Groups, aB b.Low.Den.Negative, sU32 b.Low.Den.Groups, aB b.High.Num.Negative, sU32 b.High.Num.Groups, aB b.High.Den.Negative, sU32 b.High.Den.Groups]], r := .loc (aB false) [] [] 0 : CE }] (List.forall_mem_cons.2 ⟨(callOk_val (l := []) (args' := [.agg [aB a.Low.Num.Negative, sU32 a.Low.Num.Groups, aB a.Low.Den.Negative, sU32 a.Low.Den.Groups, aB a.High.Num.Negative, sU32 a.High.Num.Groups, aB a.High.Den.Negative, sU32 a.High.Den.Groups]]) rfl (SnL.cons (Sn.pure rfl) SnL.nil) (fiducialref03_Valid_ok n a true hc2)), (List.forall_mem_cons.2 ⟨(callOk_val (l := []) (args' := [.agg [aB b.Low.Num.Negative, sU32 b.Low.Num.Groups, aB b.Low.Den.Negative, sU32 b.Low.Den.Groups, aB b.High.Num.Negative, sU32 b.High.Num.Groups, aB b.High.Den.Negative, sU32 b.High.Den.Groups]]) rfl (SnL.cons (Sn.pure rfl) SnL.nil) (fiducialref03_Valid_ok n b false hc5)), ce0⟩)⟩)) ?_
   refine EVO.p1 (.agg [aB a.Low.Num.Negative, sU32 a.Low.Num.Groups, aB a.Low.Den.Negative, sU32 a.Low.Den.Groups, aB a.High.Num.Negative, sU32 a.High.Num.Groups, aB a.High.Den.Negative, sU32 a.High.Den.Groups]) ?_
   refine EVO.c0 (by kernel_rfl) (callOf_at (by kernel_rfl)) ?_
   refine EVO.p1 (aB true) ?_
   refine EVO.q1 (.agg [aB b.Low.Num.Negative, sU32 b.Low.Num.Groups, aB b.Low.Den.Negative, sU32 b.Low.Den.Groups, aB b.High.Num.Negative, sU32 b.High.Num.Groups, aB b.High.Den.Negative, sU32 b.High.Den.Groups]) ?_
   refine EVO.cal (by kernel_rfl) (by kernel_rfl) (callOf_skip (fun _ h => by obtain e0 := fiducialref03_Valid_inj h; rw [show false = true from Option.some.inj (hc5.symm.trans ((show fiducialref03_Valid n b = fiducialref03_Valid n a from (congr rfl e0)).trans hc2))]) (callOf_at (by kernel_rfl))) ?_
   refine EVO.p1 (aB false) ?_
   refine EVO.p1 (aB false) ?_
   refine EVO.s1 ?_
   refine EVO.s1 ?_
   refine EVO.s1 ?_
   refine EVO.p1 (aB false) ?_
   refine EVO.p1 (aB false) ?_
   refine EVO.done ?_
   refine CQ.ret ?_
   obtain rfl := Option.some.inj hr
   exact FinQ.r1 [aB false]
 ·subst hb3
  replace hr := cd_f rfl hr
  refine CQ.region fine (callOf_1 28 [.agg [aB a.Low.Num.Negative, sU32 a.Low.Num.Groups, aB a.Low.Den.Negative, sU32 a.Low.Den.Groups, aB a.High.Num.Negative, sU32 a.High.Num.Groups, aB a.High.Den.Negative, sU32 a.High.Den.Groups]] [.own [aB a.Low.Num.Negative, sU32 a.Low.Num.Groups, aB a.Low.Den.Negative, sU32 a.Low.Den.Groups, aB a.High.Num.Negative, sU32 a.High.Num.Groups, aB a.High.Den.Negative, sU32 a.High.Den.Groups], .own [aB b.Low.Num.Negative, sU32 b.Low.Num.Groups, aB b.Low.Den.Negative, sU32 b.Low.Den.Groups, aB b.High.Num.Negative, sU32 b.High.Num.Groups, aB b.High.Den.Negative, sU32 b.High.Den.Groups]] (.loc (aB false) [] [] 0) (callOk_val (l := []) (args' := [.agg [aB a.Low.Num.Negative, sU32 a.Low.Num.Groups, aB a.Low.Den.Negative, sU32 a.Low.Den.Groups, aB a.High.Num.Negative, sU32 a.High.Num.Groups, aB a.High.Den.Negative, sU32 a.High.Den.Groups]]) rfl (SnL.cons (Sn.pure rfl) SnL.nil) (fiducialref03_Valid_ok n a false hc2))) ?_
  refine EVO.p1 (.agg [aB a.Low.Num.Negative, sU32 a.Low.Num.Groups, aB a.Low.Den.Negative, sU32 a.Low.Den.Groups, aB a.High.Num.Negative, sU32 a.High.Num.Groups, aB a.High.Den.Negative, sU32 a.High.Den.Groups]) ?_
  refine EVO.c0 (by kernel_rfl) (callOf_at (by kernel_rfl)) ?_
  refine EVO.p1 (aB false) ?_
  refine EVO.s1 ?_
  refine EVO.s1 ?_
  refine EVO.p1 (aB false) ?_
  refine EVO.p1 (aB false) ?_
  refine EVO.s1 ?_
  refine EVO.s1 ?_
  refine EVO.s1 ?_
  refine EVO.p1 (aB false) ?_
  refine EVO.p1 (aB false) ?_
  refine EVO.done ?_
  refine CQ.ret ?_
  obtain rfl := Option.some.inj hr
  exact FinQ.r1 [aB false]

theorem fiduciallaw59_known_ok (n : Nat) (r : Bool) (hr : fiduciallaw59_known n = some r) : FnOk Try.prog 6 [] (.at (.bool r)) := by
 unfold fiduciallaw59_known at hr
 refine FnOk.body fine Try.func6 (c := (Try.f6.body).getD .skip) rfl (s := mkS 64 0 []) (by kernel_rfl) (rs := [.tmp 0]) rfl ?_
 unfold Try.f6
 simp only [Option.getD_some]
 refine CQ.seq ?_
 refine CQ.r0 fine ?_
 refine EVO.p1 (aB false) ?_
 refine EVO.done ?_
 refine CQ.n1 [] (mkS 64 0 []) [] ?_
 refine CQ.seq ?_
 replace hr := bd hr; obtain ⟨v1, hc2, hr⟩ := hr
 replace hr := bd hr; obtain ⟨v3, hc4, hr⟩ := hr
 refine CQ.region fine (callOf_ok [{ f := 14, args := [aI64 1, .hs 0 0 4 1], H := [.own [aI64 0, aI64 0, aI64 0, aI64 0]], r := .loc (.agg [aI64 v1.Grid.X0, aI64 v1.Grid.Y0, aI64 v1.Grid.Step, aI64 v1.Grid.Width, aI64 v1.Grid.Height, sI64 v1.Grid.Z, sI64 v1.Err]) [(0, .fix [aI64 0, aI64 0, aI64 0, aI64 0])] [0] 0 : CE }, { f := 14, args := [aI64 1, .hs 1 0 4 1], H := [.fix [aI64 0, aI64 0, aI64 0, aI64 0], .own [aI64 0, aI64 5, aI64 (-3), aI64 2]], r := .loc (.agg [aI64 v3.Grid.X0, aI64 v3.Grid.Y0, aI64 v3.Grid.Step, aI64 v3.Grid.Width, aI64 v3.Grid.Height, sI64 v3.Grid.Z, sI64 v3.Err]) [(1, .fix [aI64 0, aI64 5, aI64 (-3), aI64 2])] [1] 0 : CE }] (List.forall_mem_cons.2 ⟨(callOk_ref (l := [0]) (args' := [aI64 1, sI64 [0, 0, 0, 0]]) (SnL.cons (Sn.pure rfl) (SnL.cons (Sn.hs rfl (.inl rfl) (SnC.cons (Sn.pure rfl) (SnC.cons (Sn.pure rfl) (SnC.cons (Sn.pure rfl) (SnC.cons (Sn.pure rfl) SnC.nil)))) (fun h => nomatch h)) SnL.nil)) (fiduciallaw59_banded_ok n 1 [0, 0, 0, 0] v1 hc2)), (List.forall_mem_cons.2 ⟨(callOk_ref (l := [1]) (args' := [aI64 1, sI64 [0, 5, (-3), 2]]) (SnL.cons (Sn.pure rfl) (SnL.cons (Sn.hs rfl (.inl rfl) (SnC.cons (Sn.pure rfl) (SnC.cons (Sn.pure rfl) (SnC.cons (Sn.pure rfl) (SnC.cons (Sn.pure rfl) SnC.nil)))) (fun h => nomatch h)) SnL.nil)) (fiduciallaw59_banded_ok n 1 [0, 5, (-3), 2] v3 hc4)), ce0⟩)⟩)) ?_
 refine EVO.e1 (.hs 0 0 4 1) [(0, .own [aI64 0, aI64 0, aI64 0, aI64 0])] ?_
 refine EVO.c0 (by kernel_rfl) (callOf_at (by kernel_rfl)) ?_
 refine EVO.e1 (.hs 1 0 4 1) [(1, .own [aI64 0, aI64 5, aI64 (-3), aI64 2])] ?_
 refine EVO.c0 (by kernel_rfl) (callOf_skip (fun _ h => by simp at h) (callOf_at (by kernel_rfl))) ?_
 refine EVO.e1 (.hp 2 0) [(2, .own [aI64 0, aI64 0, aI64 0, aI64 0, aI64 0, .at (.slice none 0 0), .at (.slice none 0 0)])] ?_
 refine EVO.e1 (.hp 3 0) [(3, .own [aI64 0, aI64 0, aI64 0, aI64 0, aI64 0, .at (.slice none 0 0), .at (.slice none 0 0)])] ?_
 refine EVO.e1 (.unk) [(2, .own [aI64 v1.Grid.X0, aI64 v1.Grid.Y0, aI64 v1.Grid.Step, aI64 v1.Grid.Width, aI64 v1.Grid.Height, sI64 v1.Grid.Z, sI64 v1.Err])] ?_
 refine EVO.e1 (.unk) [(3, .own [aI64 v3.Grid.X0, aI64 v3.Grid.Y0, aI64 v3.Grid.Step, aI64 v3.Grid.Width, aI64 v3.Grid.Height, sI64 v3.Grid.Z, sI64 v3.Err])] ?_
 refine EVO.done ?_
 refine CQ.n1 [1, 2] (mkS 64 0 [(1, .hp 2 0), (2, .hp 3 0)]) [.fix [aI64 0, aI64 0, aI64 0, aI64 0], .fix [aI64 0, aI64 5, aI64 (-3), aI64 2], .own [aI64 v1.Grid.X0, aI64 v1.Grid.Y0, aI64 v1.Grid.Step, aI64 v1.Grid.Width, aI64 v1.Grid.Height, sI64 v1.Grid.Z, sI64 v1.Err], .own [aI64 v3.Grid.X0, aI64 v3.Grid.Y0, aI64 v3.Grid.Step, aI64 v3.Grid.Width, aI64 v3.Grid.Height, sI64 v3.Grid.Z, sI64 v3.Err]] ?_
 refine CQ.seq ?_
 replace hr := bd hr; obtain ⟨v5, hc6, hr⟩ := hr
 refine CQ.region fine (callOf_1 11 [.agg [aI64 v1.Grid.X0, aI64 v1.Grid.Y0, aI64 v1.Grid.Step, aI64 v1.Grid.Width, aI64 v1.Grid.Height, sI64 v1.Grid.Z, sI64 v1.Err], .agg [aI64 v3.Grid.X0, aI64 v3.Grid.Y0, aI64 v3.Grid.Step, aI64 v3.Grid.Width, aI64 v3.Grid.Height, sI64 v3.Grid.Z, sI64 v3.Err]] [.fix [aI64 0, aI64 0, aI64 0, aI64 0], .fix [aI64 0, aI64 5, aI64 (-3), aI64 2], .own [aI64 v1.Grid.X0, aI64 v1.Grid.Y0, aI64 v1.Grid.Step, aI64 v1.Grid.Width, aI64 v1.Grid.Height, sI64 v1.Grid.Z, sI64 v1.Err], .own [aI64 v3.Grid.X0, aI64 v3.Grid.Y0, aI64 v3.Grid.Step, aI64 v3.Grid.Width, aI64 v3.Grid.Height, sI64 v3.Grid.Z, sI64 v3.Err]] (.loc (.tup [sI64 v5.1, aI64 v5.2]) [] [] 0) (callOk_ref (l := []) (args' := [.agg [aI64 v1.Grid.X0, aI64 v1.Grid.Y0, aI64 v1.Grid.Step, aI64 v1.Grid.Width, aI64 v1.Grid.Height, sI64 v1.Grid.Z, sI64 v1.Err], .agg [aI64 v3.Grid.X0, aI64 v3.Grid.Y0, aI64 v3.Grid.Step, aI64 v3.Grid.Width, aI64 v3.Grid.Height, sI64 v3.Grid.Z, sI64 v3.Err]]) (SnL.cons (Sn.pure rfl) (SnL.cons (Sn.pure rfl) SnL.nil)) (change_Compare_ok n v1 v3 v5 hc6))) ?_
 refine EVO.p1 (.agg [aI64 v1.Grid.X0, aI64 v1.Grid.Y0, aI64 v1.Grid.Step, aI64 v1.Grid.Width, aI64 v1.Grid.Height, sI64 v1.Grid.Z, sI64 v1.Err]) ?_
 refine EVO.p1 (.agg [aI64 v3.Grid.X0, aI64 v3.Grid.Y0, aI64 v3.Grid.Step, aI64 v3.Grid.Width, aI64 v3.Grid.Height, sI64 v3.Grid.Z, sI64 v3.Err]) ?_
 refine EVO.c0 (by kernel_rfl) (callOf_at (by kernel_rfl)) ?_
 refine EVO.p1 (.tup [sI64 v5.1, aI64 v5.2]) ?_
 refine EVO.p1 (sI64 v5.1) ?_
 refine EVO.p1 (aI64 v5.2) ?_
 refine EVO.p1 (sI64 v5.1) ?_
 refine EVO.p1 (aI64 v5.2) ?_
 refine EVO.done ?_
 refine CQ.n1 [1, 2, 3, 4] (mkS 64 0 [(1, .hp 2 0), (2, .hp 3 0), (3, sI64 v5.1), (4, aI64 v5.2)]) [.fix [aI64 0, aI64 0, aI64 0, aI64 0], .fix [aI64 0, aI64 5, aI64 (-3), aI64 2], .own [aI64 v1.Grid.X0, aI64 v1.Grid.Y0, aI64 v1.Grid.Step, aI64 v1.Grid.Width, aI64 v1.Grid.Height, sI64 v1.Grid.Z, sI64 v1.Err], .own [aI64 v3.Grid.X0, aI64 v3.Grid.Y0, aI64 v3.Grid.Step, aI64 v3.Grid.Width, aI64 v3.Grid.Height, sI64 v3.Grid.Z, sI64 v3.Err]] ?_
 refine CQ.seq ?_
 replace hr := bd hr; obtain ⟨v7, hc8, hr⟩ := hr
 refine CQ.region fine (callOf_1 15 [.agg [aI64 v1.Grid.X0, aI64 v1.Grid.Y0, aI64 v1.Grid.Step, aI64 v1.Grid.Width, aI64 v1.Grid.Height, sI64 v1.Grid.Z, sI64 v1.Err], .agg [aI64 v3.Grid.X0, aI64 v3.Grid.Y0, aI64 v3.Grid.Step, aI64 v3.Grid.Width, aI64 v3.Grid.Height, sI64 v3.Grid.Z, sI64 v3.Err], .hs 4 0 4 1] [.fix [aI64 0, aI64 0, aI64 0, aI64 0], .fix [aI64 0, aI64 5, aI64 (-3), aI64 2], .own [aI64 v1.Grid.X0, aI64 v1.Grid.Y0, aI64 v1.Grid.Step, aI64 v1.Grid.Width, aI64 v1.Grid.Height, sI64 v1.Grid.Z, sI64 v1.Err], .own [aI64 v3.Grid.X0, aI64 v3.Grid.Y0, aI64 v3.Grid.Step, aI64 v3.Grid.Width, aI64 v3.Grid.Height, sI64 v3.Grid.Z, sI64 v3.Err], .own [aB true, aB true, aB true, aB true]] (.loc (.tup [.agg [aB v7.1.Low.Num.Negative, sU32 v7.1.Low.Num.Groups, aB v7.1.Low.Den.Negative, sU32 v7.1.Low.Den.Groups, aB v7.1.High.Num.Negative, sU32 v7.1.High.Num.Groups, aB v7.1.High.Den.Negative, sU32 v7.1.High.Den.Groups], aI64 v7.2]) [(4, .fix [aB true, aB true, aB true, aB true])] [4] 0) (callOk_ref (l := [4]) (args' := [.agg [aI64 v1.Grid.X0, aI64 v1.Grid.Y0, aI64 v1.Grid.Step, aI64 v1.Grid.Width, aI64 v1.Grid.Height, sI64 v1.Grid.Z, sI64 v1.Err], .agg [aI64 v3.Grid.X0, aI64 v3.Grid.Y0, aI64 v3.Grid.Step, aI64 v3.Grid.Width, aI64 v3.Grid.Height, sI64 v3.Grid.Z, sI64 v3.Err], slT bC [true, true, true, true]]) (SnL.cons (Sn.pure rfl) (SnL.cons (Sn.pure rfl) (SnL.cons (Sn.hs rfl (.inl rfl) (SnC.cons (Sn.pure rfl) (SnC.cons (Sn.pure rfl) (SnC.cons (Sn.pure rfl) (SnC.cons (Sn.pure rfl) SnC.nil)))) (fun h => nomatch h)) SnL.nil))) (change_Volume_ok n v1 v3 [true, true, true, true] v7 hc8))) ?_
 refine EVO.p1 (.agg [aI64 v1.Grid.X0, aI64 v1.Grid.Y0, aI64 v1.Grid.Step, aI64 v1.Grid.Width, aI64 v1.Grid.Height, sI64 v1.Grid.Z, sI64 v1.Err]) ?_
 refine EVO.p1 (.agg [aI64 v3.Grid.X0, aI64 v3.Grid.Y0, aI64 v3.Grid.Step, aI64 v3.Grid.Width, aI64 v3.Grid.Height, sI64 v3.Grid.Z, sI64 v3.Err]) ?_
 refine EVO.e1 (.hs 4 0 4 1) [(4, .own [aB true, aB true, aB true, aB true])] ?_
 refine EVO.c0 (by kernel_rfl) (callOf_at (by kernel_rfl)) ?_
 refine EVO.p1 (.tup [.agg [aB v7.1.Low.Num.Negative, sU32 v7.1.Low.Num.Groups, aB v7.1.Low.Den.Negative, sU32 v7.1.Low.Den.Groups, aB v7.1.High.Num.Negative, sU32 v7.1.High.Num.Groups, aB v7.1.High.Den.Negative, sU32 v7.1.High.Den.Groups], aI64 v7.2]) ?_
 refine EVO.p1 (.agg [aB v7.1.Low.Num.Negative, sU32 v7.1.Low.Num.Groups, aB v7.1.Low.Den.Negative, sU32 v7.1.Low.Den.Groups, aB v7.1.High.Num.Negative, sU32 v7.1.High.Num.Groups, aB v7.1.High.Den.Negative, sU32 v7.1.High.Den.Groups]) ?_
 refine EVO.p1 (aI64 v7.2) ?_
 refine EVO.e1 (.hp 5 0) [(5, .own [aB false, .at (.slice none 0 0), aB false, .at (.slice none 0 0), aB false, .at (.slice none 0 0), aB false, .at (.slice none 0 0)])] ?_
 refine EVO.e1 (.unk) [(5, .own [aB v7.1.Low.Num.Negative, sU32 v7.1.Low.Num.Groups, aB v7.1.Low.Den.Negative, sU32 v7.1.Low.Den.Groups, aB v7.1.High.Num.Negative, sU32 v7.1.High.Num.Groups, aB v7.1.High.Den.Negative, sU32 v7.1.High.Den.Groups])] ?_
 refine EVO.p1 (aI64 v7.2) ?_
 refine EVO.done ?_
 refine CQ.n1 [1, 2, 3, 4, 5, 6] (mkS 64 0 [(1, .hp 2 0), (2, .hp 3 0), (3, sI64 v5.1), (4, aI64 v5.2), (5, .hp 5 0), (6, aI64 v7.2)]) [.fix [aI64 0, aI64 0, aI64 0, aI64 0], .fix [aI64 0, aI64 5, aI64 (-3), aI64 2], .own [aI64 v1.Grid.X0, aI64 v1.Grid.Y0, aI64 v1.Grid.Step, aI64 v1.Grid.Width, aI64 v1.Grid.Height, sI64 v1.Grid.Z, sI64 v1.Err], .own [aI64 v3.Grid.X0, aI64 v3.Grid.Y0, aI64 v3.Grid.Step, aI64 v3.Grid.Width, aI64 v3.Grid.Height, sI64 v3.Grid.Z, sI64 v3.Err], .fix [aB true, aB true, aB true, aB true], .own [aB v7.1.Low.Num.Negative, sU32 v7.1.Low.Num.Groups, aB v7.1.Low.Den.Negative, sU32 v7.1.Low.Den.Groups, aB v7.1.High.Num.Negative, sU32 v7.1.High.Num.Groups, aB v7.1.High.Den.Negative, sU32 v7.1.High.Den.Groups]] ?_
 refine CQ.seq ?_
 replace hr := bd hr; obtain ⟨v9, hc10, hr⟩ := hr
 refine CQ.region fine (callOf_1 16 [.agg [aI64 v1.Grid.X0, aI64 v1.Grid.Y0, aI64 v1.Grid.Step, aI64 v1.Grid.Width, aI64 v1.Grid.Height, sI64 v1.Grid.Z, sI64 v1.Err], .agg [aI64 v3.Grid.X0, aI64 v3.Grid.Y0, aI64 v3.Grid.Step, aI64 v3.Grid.Width, aI64 v3.Grid.Height, sI64 v3.Grid.Z, sI64 v3.Err]] [.fix [aI64 0, aI64 0, aI64 0, aI64 0], .fix [aI64 0, aI64 5, aI64 (-3), aI64 2], .own [aI64 v1.Grid.X0, aI64 v1.Grid.Y0, aI64 v1.Grid.Step, aI64 v1.Grid.Width, aI64 v1.Grid.Height, sI64 v1.Grid.Z, sI64 v1.Err], .own [aI64 v3.Grid.X0, aI64 v3.Grid.Y0, aI64 v3.Grid.Step, aI64 v3.Grid.Width, aI64 v3.Grid.Height, sI64 v3.Grid.Z, sI64 v3.Err], .fix [aB true, aB true, aB true, aB true], .own [aB v7.1.Low.Num.Negative, sU32 v7.1.Low.Num.Groups, aB v7.1.Low.Den.Negative, sU32 v7.1.Low.Den.Groups, aB v7.1.High.Num.Negative, sU32 v7.1.High.Num.Groups, aB v7.1.High.Den.Negative, sU32 v7.1.High.Den.Groups]] (.loc (.tup [.agg [aB v9.1.Low.Num.Negative, sU32 v9.1.Low.Num.Groups, aB v9.1.Low.Den.Negative, sU32 v9.1.Low.Den.Groups, aB v9.1.High.Num.Negative, sU32 v9.1.High.Num.Groups, aB v9.1.High.Den.Negative, sU32 v9.1.High.Den.Groups], .agg [aB v9.2.1.Low.Num.Negative, sU32 v9.2.1.Low.Num.Groups, aB v9.2.1.Low.Den.Negative, sU32 v9.2.1.Low.Den.Groups, aB v9.2.1.High.Num.Negative, sU32 v9.2.1.High.Num.Groups, aB v9.2.1.High.Den.Negative, sU32 v9.2.1.High.Den.Groups], aI64 v9.2.2]) [] [] 0) (callOk_ref (l := []) (args' := [.agg [aI64 v1.Grid.X0, aI64 v1.Grid.Y0, aI64 v1.Grid.Step, aI64 v1.Grid.Width, aI64 v1.Grid.Height, sI64 v1.Grid.Z, sI64 v1.Err], .agg [aI64 v3.Grid.X0, aI64 v3.Grid.Y0, aI64 v3.Grid.Step, aI64 v3.Grid.Width, aI64 v3.Grid.Height, sI64 v3.Grid.Z, sI64 v3.Err]]) (SnL.cons (Sn.pure rfl) (SnL.cons (Sn.pure rfl) SnL.nil)) (change_Total_ok n v1 v3 v9 hc10))) ?_
 refine EVO.p1 (.agg [aI64 v1.Grid.X0, aI64 v1.Grid.Y0, aI64 v1.Grid.Step, aI64 v1.Grid.Width, aI64 v1.Grid.Height, sI64 v1.Grid.Z, sI64 v1.Err]) ?_
 refine EVO.p1 (.agg [aI64 v3.Grid.X0, aI64 v3.Grid.Y0, aI64 v3.Grid.Step, aI64 v3.Grid.Width, aI64 v3.Grid.Height, sI64 v3.Grid.Z, sI64 v3.Err]) ?_
 refine EVO.c0 (by kernel_rfl) (callOf_at (by kernel_rfl)) ?_
 refine EVO.p1 (.tup [.agg [aB v9.1.Low.Num.Negative, sU32 v9.1.Low.Num.Groups, aB v9.1.Low.Den.Negative, sU32 v9.1.Low.Den.Groups, aB v9.1.High.Num.Negative, sU32 v9.1.High.Num.Groups, aB v9.1.High.Den.Negative, sU32 v9.1.High.Den.Groups], .agg [aB v9.2.1.Low.Num.Negative, sU32 v9.2.1.Low.Num.Groups, aB v9.2.1.Low.Den.Negative, sU32 v9.2.1.Low.Den.Groups, aB v9.2.1.High.Num.Negative, sU32 v9.2.1.High.Num.Groups, aB v9.2.1.High.Den.Negative, sU32 v9.2.1.High.Den.Groups], aI64 v9.2.2]) ?_
 refine EVO.p1 (.agg [aB v9.1.Low.Num.Negative, sU32 v9.1.Low.Num.Groups, aB v9.1.Low.Den.Negative, sU32 v9.1.Low.Den.Groups, aB v9.1.High.Num.Negative, sU32 v9.1.High.Num.Groups, aB v9.1.High.Den.Negative, sU32 v9.1.High.Den.Groups]) ?_
 refine EVO.p1 (.agg [aB v9.2.1.Low.Num.Negative, sU32 v9.2.1.Low.Num.Groups, aB v9.2.1.Low.Den.Negative, sU32 v9.2.1.Low.Den.Groups, aB v9.2.1.High.Num.Negative, sU32 v9.2.1.High.Num.Groups, aB v9.2.1.High.Den.Negative, sU32 v9.2.1.High.Den.Groups]) ?_
 refine EVO.p1 (aI64 v9.2.2) ?_
 refine EVO.e1 (.hp 6 0) [(6, .own [aB false, .at (.slice none 0 0), aB false, .at (.slice none 0 0), aB false, .at (.slice none 0 0), aB false, .at (.slice none 0 0)])] ?_
 refine EVO.e1 (.hp 7 0) [(7, .own [aB false, .at (.slice none 0 0), aB false, .at (.slice none 0 0), aB false, .at (.slice none 0 0), aB false, .at (.slice none 0 0)])] ?_
 refine EVO.e1 (.unk) [(6, .own [aB v9.1.Low.Num.Negative, sU32 v9.1.Low.Num.Groups, aB v9.1.Low.Den.Negative, sU32 v9.1.Low.Den.Groups, aB v9.1.High.Num.Negative, sU32 v9.1.High.Num.Groups, aB v9.1.High.Den.Negative, sU32 v9.1.High.Den.Groups])] ?_
 refine EVO.e1 (.unk) [(7, .own [aB v9.2.1.Low.Num.Negative, sU32 v9.2.1.Low.Num.Groups, aB v9.2.1.Low.Den.Negative, sU32 v9.2.1.Low.Den.Groups, aB v9.2.1.High.Num.Negative, sU32 v9.2.1.High.Num.Groups, aB v9.2.1.High.Den.Negative, sU32 v9.2.1.High.Den.Groups])] ?_
 refine EVO.p1 (aI64 v9.2.2) ?_
 refine EVO.done ?_
 refine CQ.n1 [3, 4, 5, 6, 7, 8, 9] (mkS 64 0 [(3, sI64 v5.1), (4, aI64 v5.2), (5, .hp 5 0), (6, aI64 v7.2), (7, .hp 6 0), (8, .hp 7 0), (9, aI64 v9.2.2)]) [.fix [aI64 0, aI64 0, aI64 0, aI64 0], .fix [aI64 0, aI64 5, aI64 (-3), aI64 2], .own [aI64 v1.Grid.X0, aI64 v1.Grid.Y0, aI64 v1.Grid.Step, aI64 v1.Grid.Width, aI64 v1.Grid.Height, sI64 v1.Grid.Z, sI64 v1.Err], .own [aI64 v3.Grid.X0, aI64 v3.Grid.Y0, aI64 v3.Grid.Step, aI64 v3.Grid.Width, aI64 v3.Grid.Height, sI64 v3.Grid.Z, sI64 v3.Err], .fix [aB true, aB true, aB true, aB true], .own [aB v7.1.Low.Num.Negative, sU32 v7.1.Low.Num.Groups, aB v7.1.Low.Den.Negative, sU32 v7.1.Low.Den.Groups, aB v7.1.High.Num.Negative, sU32 v7.1.High.Num.Groups, aB v7.1.High.Den.Negative, sU32 v7.1.High.Den.Groups], .own [aB v9.1.Low.Num.Negative, sU32 v9.1.Low.Num.Groups, aB v9.1.Low.Den.Negative, sU32 v9.1.Low.Den.Groups, aB v9.1.High.Num.Negative, sU32 v9.1.High.Num.Groups, aB v9.1.High.Den.Negative, sU32 v9.1.High.Den.Groups], .own [aB v9.2.1.Low.Num.Negative, sU32 v9.2.1.Low.Num.Groups, aB v9.2.1.Low.Den.Negative, sU32 v9.2.1.Low.Den.Groups, aB v9.2.1.High.Num.Negative, sU32 v9.2.1.High.Num.Groups, aB v9.2.1.High.Den.Negative, sU32 v9.2.1.High.Den.Groups]] ?_
 refine CQ.seq ?_
 rcases Bool.eq_false_or_eq_true ((v5.2 : Int) == 0) with hb11 | hb11
 ·replace hr := cd_t hb11 hr
  rcases Bool.eq_false_or_eq_true ((v7.2 : Int) == 0) with hb12 | hb12
  ·replace hr := cd_t hb12 hr
   rcases Bool.eq_false_or_eq_true ((v9.2.2 : Int) == 0) with hb13 | hb13
   ·replace hr := cd_t hb13 hr
    replace hr := bd hr; obtain ⟨v14, hc15, hr⟩ := hr
    rcases Bool.eq_false_or_eq_true v14 with hb16 | hb16
    ·subst hb16
     replace hr := cd_t rfl hr
     replace hr := bd hr; obtain ⟨v17, hc18, hr⟩ := hr
     replace hr := bd hr; obtain ⟨v19, hc20, hr⟩ := hr
     rcases Bool.eq_false_or_eq_true v19 with hb21 | hb21
     ·subst hb21
      replace hr := cd_t rfl hr
      replace hr := bd hr; obtain ⟨v22, hc23, hr⟩ := hr
      replace hr := bd hr; obtain ⟨v24, hc25, hr⟩ := hr
      rcases Bool.eq_false_or_eq_true v24 with hb26 | hb26
      ·subst hb26
       replace hr := cd_t rfl hr
       replace hr := bd hr; obtain ⟨v27, hc28, hr⟩ := hr
       replace hr := bd hr; obtain ⟨v29, hc30, hr⟩ := hr
       refine CQ.regionT fine (callOf_ok [{ f := 17, args := [sI64 v5.1, .hs 8 0 4 1], H := [.fix [aI64 0, aI64 0, aI64 0, aI64 0], .fix [aI64 0, aI64 5, aI64 (-3), aI64 2], .own [aI64 v1.Grid.X0, aI64 v1.Grid.Y0, aI64 v1.Grid.Step, aI64 v1.Grid.Width, aI64 v1.Grid.Height, sI64 v1.Grid.Z, sI64 v1.Err], .own [aI64 v3.Grid.X0, aI64 v3.Grid.Y0, aI64 v3.Grid.Step, aI64 v3.Grid.Width, aI64 v3.Grid.Height, sI64 v3.Grid.Z, sI64 v3.Err], .fix [aB true, aB true, aB true, aB true], .own [aB v7.1.Low.Num.Negative, sU32 v7.1.Low.Num.Groups, aB v7.1.Low.Den.Negative, sU32 v7.1.Low.Den.Groups, aB v7.1.High.Num.Negative, sU32 v7.1.High.Num.Groups, aB v7.1.High.Den.Negative, sU32 v7.1.High.Den.Groups], .own [aB v9.1.Low.Num.Negative, sU32 v9.1.Low.Num.Groups, aB v9.1.Low.Den.Negative, sU32 v9.1.Low.Den.Groups, aB v9.1.High.Num.Negative, sU32 v9.1.High.Num.Groups, aB v9.1.High.Den.Negative, sU32 v9.1.High.Den.Groups], .own [aB v9.2.1.Low.Num.Negative, sU32 v9.2.1.Low.Num.Groups, aB v9.2.1.Low.Den.Negative, sU32 v9.2.1.Low.Den.Groups, aB v9.2.1.High.Num.Negative, sU32 v9.2.1.High.Num.Groups, aB v9.2.1.High.Den.Negative, sU32 v9.2.1.High.Den.Groups], .own [aI64 0, aI64 1, aI64 2, aI64 0]], r := .loc (aB true) [] [8] 0 : CE }, { f := 19, args := [aI64 (-16), aI64 48], H := [.fix [aI64 0, aI64 0, aI64 0, aI64 0], .fix [aI64 0, aI64 5, aI64 (-3), aI64 2], .own [aI64 v1.Grid.X0, aI64 v1.Grid.Y0, aI64 v1.Grid.Step, aI64 v1.Grid.Width, aI64 v1.Grid.Height, sI64 v1.Grid.Z, sI64 v1.Err], .own [aI64 v3.Grid.X0, aI64 v3.Grid.Y0, aI64 v3.Grid.Step, aI64 v3.Grid.Width, aI64 v3.Grid.Height, sI64 v3.Grid.Z, sI64 v3.Err], .fix [aB true, aB true, aB true, aB true], .own [aB v7.1.Low.Num.Negative, sU32 v7.1.Low.Num.Groups, aB v7.1.Low.Den.Negative, sU32 v7.1.Low.Den.Groups, aB v7.1.High.Num.Negative, sU32 v7.1.High.Num.Groups, aB v7.1.High.Den.Negative, sU32 v7.1.High.Den.Groups], .own [aB v9.1.Low.Num.Negative, sU32 v9.1.Low.Num.Groups, aB v9.1.Low.Den.Negative, sU32 v9.1.Low.Den.Groups, aB v9.1.High.Num.Negative, sU32 v9.1.High.Num.Groups, aB v9.1.High.Den.Negative, sU32 v9.1.High.Den.Groups], .own [aB v9.2.1.Low.Num.Negative, sU32 v9.2.1.Low.Num.Groups, aB v9.2.1.Low.Den.Negative, sU32 v9.2.1.Low.Den.Groups, aB v9.2.1.High.Num.Negative, sU32 v9.2.1.High.Num.Groups, aB v9.2.1.High.Den.Negative, sU32 v9.2.1.High.Den.Groups], .own [aI64 0, aI64 1, aI64 2, aI64 0]], r := .loc (.agg [aB v17.Low.Num.Negative, sU32 v17.Low.Num.Groups, aB v17.Low.Den.Negative, sU32 v17.Low.Den.Groups, aB v17.High.Num.Negative, sU32 v17.High.Num.Groups, aB v17.High.Den.Negative, sU32 v17.High.Den.Groups]) [] [] 0 : CE }, { f := 18, args := [.agg [aB v7.1.Low.Num.Negative, sU32 v7.1.Low.Num.Groups, aB v7.1.Low.Den.Negative, sU32 v7.1.Low.Den.Groups, aB v7.1.High.Num.Negative, sU32 v7.1.High.Num.Groups, aB v7.1.High.Den.Negative, sU32 v7.1.High.Den.Groups], .agg [aB v17.Low.Num.Negative, sU32 v17.Low.Num.Groups, aB v17.Low.Den.Negative, sU32 v17.Low.Den.Groups, aB v17.High.Num.Negative, sU32 v17.High.Num.Groups, aB v17.High.Den.Negative, sU32 v17.High.Den.Groups]], H := [.fix [aI64 0, aI64 0, aI64 0, aI64 0], .fix [aI64 0, aI64 5, aI64 (-3), aI64 2], .own [aI64 v1.Grid.X0, aI64 v1.Grid.Y0, aI64 v1.Grid.Step, aI64 v1.Grid.Width, aI64 v1.Grid.Height, sI64 v1.Grid.Z, sI64 v1.Err], .own [aI64 v3.Grid.X0, aI64 v3.Grid.Y0, aI64 v3.Grid.Step, aI64 v3.Grid.Width, aI64 v3.Grid.Height, sI64 v3.Grid.Z, sI64 v3.Err], .fix [aB true, aB true, aB true, aB true], .own [aB v7.1.Low.Num.Negative, sU32 v7.1.Low.Num.Groups, aB v7.1.Low.Den.Negative, sU32 v7.1.Low.Den.Groups, aB v7.1.High.Num.Negative, sU32 v7.1.High.Num.Groups, aB v7.1.High.Den.Negative, sU32 v7.1.High.Den.Groups], .own [aB v9.1.Low.Num.Negative, sU32 v9.1.Low.Num.Groups, aB v9.1.Low.Den.Negative, sU32 v9.1.Low.Den.Groups, aB v9.1.High.Num.Negative, sU32 v9.1.High.Num.Groups, aB v9.1.High.Den.Negative, sU32 v9.1.High.Den.Groups], .own [aB v9.2.1.Low.Num.Negative, sU32 v9.2.1.Low.Num.Groups, aB v9.2.1.Low.Den.Negative, sU32 v9.2.1.Low.Den.Groups, aB v9.2.1.High.Num.Negative, sU32 v9.2.1.High.Num.Groups, aB v9.2.1.High.Den.Negative, sU32 v9.2.1.High.Den.Groups], .own [aI64 0, aI64 1, aI64 2, aI64 0]], r := .loc (aB true) [] [] 0 : CE }, { f := 19, args := [aI64 12, aI64 52], H := [.fix [aI64 0, aI64 0, aI64 0, aI64 0], .fix [aI64 0, aI64 5, aI64 (-3), aI64 2], .own [aI64 v1.Grid.X0, aI64 v1.Grid.Y0, aI64 v1.Grid.Step, aI64 v1.Grid.Width, aI64 v1.Grid.Height, sI64 v1.Grid.Z, sI64 v1.Err], .own [aI64 v3.Grid.X0, aI64 v3.Grid.Y0, aI64 v3.Grid.Step, aI64 v3.Grid.Width, aI64 v3.Grid.Height, sI64 v3.Grid.Z, sI64 v3.Err], .fix [aB true, aB true, aB true, aB true], .own [aB v7.1.Low.Num.Negative, sU32 v7.1.Low.Num.Groups, aB v7.1.Low.Den.Negative, sU32 v7.1.Low.Den.Groups, aB v7.1.High.Num.Negative, sU32 v7.1.High.Num.Groups, aB v7.1.High.Den.Negative, sU32 v7.1.High.Den.Groups], .own [aB v9.1.Low.Num.Negative, sU32 v9.1.Low.Num.Groups, aB v9.1.Low.Den.Negative, sU32 v9.1.Low.Den.Groups, aB v9.1.High.Num.Negative, sU32 v9.1.High.Num.Groups, aB v9.1.High.Den.Negative, sU32 v9.1.High.Den.Groups], .own [aB v9.2.1.Low.Num.Negative, sU32 v9.2.1.Low.Num.Groups, aB v9.2.1.Low.Den.Negative, sU32 v9.2.1.Low.Den.Groups, aB v9.2.1.High.Num.Negative, sU32 v9.2.1.High.Num.Groups, aB v9.2.1.High.Den.Negative, sU32 v9.2.1.High.Den.Groups], .own [aI64 0, aI64 1, aI64 2, aI64 0]], r := .loc (.agg [aB v22.Low.Num.Negative, sU32 v22.Low.Num.Groups, aB v22.Low.Den.Negative, sU32 v22.Low.Den.Groups, aB v22.High.Num.Negative, sU32 v22.High.Num.Groups, aB v22.High.Den.Negative, sU32 v22.High.Den.Groups]) [] [] 0 : CE }, { f := 18, args := [.agg [aB v9.1.Low.Num.Negative, sU32 v9.1.Low.Num.Groups, aB v9.1.Low.Den.Negative, sU32 v9.1.Low.Den.Groups, aB v9.1.High.Num.Negative, sU32 v9.1.High.Num.Groups, aB v9.1.High.Den.Negative, sU32 v9.1.High.Den.Groups], .agg [aB v22.Low.Num.Negative, sU32 v22.Low.Num.Groups, aB v22.Low.Den.Negative, sU32 v22.Low.Den.Groups, aB v22.High.Num.Negative, sU32 v22.High.Num.Groups, aB v22.High.Den.Negative, sU32 v22.High.Den.Groups]], H := [.fix [aI64 0, aI64 0, aI64 0, aI64 0], .fix [aI64 0, aI64 5, aI64 (-3), aI64 2], .own [aI64 v1.Grid.X0, aI64 v1.Grid.Y0, aI64 v1.Grid.Step, aI64 v1.Grid.Width, aI64 v1.Grid.Height, sI64 v1.Grid.Z, sI64 v1.Err], .own [aI64 v3.Grid.X0, aI64 v3.Grid.Y0, aI64 v3.Grid.Step, aI64 v3.Grid.Width, aI64 v3.Grid.Height, sI64 v3.Grid.Z, sI64 v3.Err], .fix [aB true, aB true, aB true, aB true], .own [aB v7.1.Low.Num.Negative, sU32 v7.1.Low.Num.Groups, aB v7.1.Low.Den.Negative, sU32 v7.1.Low.Den.Groups, aB v7.1.High.Num.Negative, sU32 v7.1.High.Num.Groups, aB v7.1.High.Den.Negative, sU32 v7.1.High.Den.Groups], .own [aB v9.1.Low.Num.Negative, sU32 v9.1.Low.Num.Groups, aB v9.1.Low.Den.Negative, sU32 v9.1.Low.Den.Groups, aB v9.1.High.Num.Negative, sU32 v9.1.High.Num.Groups, aB v9.1.High.Den.Negative, sU32 v9.1.High.Den.Groups], .own [aB v9.2.1.Low.Num.Negative, sU32 v9.2.1.Low.Num.Groups, aB v9.2.1.Low.Den.Negative, sU32 v9.2.1.Low.Den.Groups, aB v9.2.1.High.Num.Negative, sU32 v9.2.1.High.Num.Groups, aB v9.2.1.High.Den.Negative, sU32 v9.2.1.High.Den.Groups], .own [aI64 0, aI64 1, aI64 2, aI64 0]], r := .loc (aB true) [] [] 0 : CE }, { f := 19, args := [aI64 4, aI64 28], H := [.fix [aI64 0, aI64 0, aI64 0, aI64 0], .fix [aI64 0, aI64 5, aI64 (-3), aI64 2], .own [aI64 v1.Grid.X0, aI64 v1.Grid.Y0, aI64 v1.Grid.Step, aI64 v1.Grid.Width, aI64 v1.Grid.Height, sI64 v1.Grid.Z, sI64 v1.Err], .own [aI64 v3.Grid.X0, aI64 v3.Grid.Y0, aI64 v3.Grid.Step, aI64 v3.Grid.Width, aI64 v3.Grid.Height, sI64 v3.Grid.Z, sI64 v3.Err], .fix [aB true, aB true, aB true, aB true], .own [aB v7.1.Low.Num.Negative, sU32 v7.1.Low.Num.Groups, aB v7.1.Low.Den.Negative, sU32 v7.1.Low.Den.Groups, aB v7.1.High.Num.Negative, sU32 v7.1.High.Num.Groups, aB v7.1.High.Den.Negative, sU32 v7.1.High.Den.Groups], .own [aB v9.1.Low.Num.Negative, sU32 v9.1.Low.Num.Groups, aB v9.1.Low.Den.Negative, sU32 v9.1.Low.Den.Groups, aB v9.1.High.Num.Negative, sU32 v9.1.High.Num.Groups, aB v9.1.High.Den.Negative, sU32 v9.1.High.Den.Groups], .own [aB v9.2.1.Low.Num.Negative, sU32 v9.2.1.Low.Num.Groups, aB v9.2.1.Low.Den.Negative, sU32 v9.2.1.Low.Den.Groups, aB v9.2.1.High.Num.Negative, sU32 v9.2.1.High.Num.Groups, aB v9.2.1.High.Den.Negative, sU32 v9.2.1.High.Den.Groups], .own [aI64 0, aI64 1, aI64 2, aI64 0]], r := .loc (.agg [aB v27.Low.Num.Negative, sU32 v27.Low.Num.Groups, aB v27.Low.Den.Negative, sU32 v27.Low.Den.Groups, aB v27.High.Num.Negative, sU32 v27.High.Num.Groups, aB v27.High.Den.Negative, sU32 v27.High.Den.Groups]) [] [] 0 : CE }, { f := 18, args := [.agg [aB v9.2.1.Low.Num.Negative, sU32 v9.2.1.Low.Num.Groups, aB v9.2.1.Low.Den.Negative, sU32 v9.2.1.Low.Den.Groups, aB v9.2.1.High.Num.Negative, sU32 v9.2.1.High.Num.Groups, aB v9.2.1.High.Den.Negative, sU32 v9.2.1.High.Den.Groups], .agg [aB v27.Low.Num.Negative, sU32 v27.Low.Num.Groups, aB v27.Low.Den.Negative, sU32 v27.Low.Den.Groups, aB v27.High.Num.Negative, sU32 v27.High.Num.Groups, aB v27.High.Den.Negative, sU32 v27.High.Den.Groups]], H := [.fix [aI64 0, aI64 0, aI64 0, aI64 0], .fix [aI64 0, aI64 5, aI64 (-3), aI64 2], .own [aI64 v1.Grid.X0, aI64 v1.Grid.Y0, aI64 v1.Grid.Step, aI64 v1.Grid.Width, aI64 v1.Grid.Height, sI64 v1.Grid.Z, sI64 v1.Err], .own [aI64 v3.Grid.X0, aI64 v3.Grid.Y0, aI64 v3.Grid.Step, aI64 v3.Grid.Width, aI64 v3.Grid.Height, sI64 v3.Grid.Z, sI64 v3.Err], .fix [aB true, aB true, aB true, aB true], .own [aB v7.1.Low.Num.Negative, sU32 v7.1.Low.Num.Groups, aB v7.1.Low.Den.Negative, sU32 v7.1.Low.Den.Groups, aB v7.1.High.Num.Negative, sU32 v7.1.High.Num.Groups, aB v7.1.High.Den.Negative, sU32 v7.1.High.Den.Groups], .own [aB v9.1.Low.Num.Negative, sU32 v9.1.Low.Num.Groups, aB v9.1.Low.Den.Negative, sU32 v9.1.Low.Den.Groups, aB v9.1.High.Num.Negative, sU32 v9.1.High.Num.Groups, aB v9.1.High.Den.Negative, sU32 v9.1.High.Den.Groups], .own [aB v9.2.1.Low.Num.Negative, sU32 v9.2.1.Low.Num.Groups, aB v9.2.1.Low.Den.Negative, sU32 v9.2.1.Low.Den.Groups, aB v9.2.1.High.Num.Negative, sU32 v9.2.1.High.Num.Groups, aB v9.2.1.High.Den.Negative, sU32 v9.2.1.High.Den.Groups], .own [aI64 0, aI64 1, aI64 2, aI64 0]], r := .loc (aB v29) [] [] 0 : CE }] (List.forall_mem_cons.2 ⟨(callOk_val (l := [8]) (args' := [sI64 v5.1, sI64 [0, 1, 2, 0]]) rfl (SnL.cons (Sn.pure rfl) (SnL.cons (Sn.hs rfl (.inl rfl) (SnC.cons (Sn.pure rfl) (SnC.cons (Sn.pure rfl) (SnC.cons (Sn.pure rfl) (SnC.cons (Sn.pure rfl) SnC.nil)))) (fun h => nomatch h)) SnL.nil)) (slices_Equal_fiducial_api_Verdict_fiducial_api_Verdict_ok n v5.1 [0, 1, 2, 0] true hc15)), (List.forall_mem_cons.2 ⟨(callOk_ref (l := []) (args' := [aI64 (-16), aI64 48]) (SnL.cons (Sn.pure rfl) (SnL.cons (Sn.pure rfl) SnL.nil)) (fiducialref03_Whole_ok n (-16) 48 v17 hc18)), (List.forall_mem_cons.2 ⟨(callOk_val (l := []) (args' := [.agg [aB v7.1.Low.Num.Negative, sU32 v7.1.Low.Num.Groups, aB v7.1.Low.Den.Negative, sU32 v7.1.Low.Den.Groups, aB v7.1.High.Num.Negative, sU32 v7.1.High.Num.Groups, aB v7.1.High.Den.Negative, sU32 v7.1.High.Den.Groups], .agg [aB v17.Low.Num.Negative, sU32 v17.Low.Num.Groups, aB v17.Low.Den.Negative, sU32 v17.Low.Den.Groups, aB v17.High.Num.Negative, sU32 v17.High.Num.Groups, aB v17.High.Den.Negative, sU32 v17.High.Den.Groups]]) rfl (SnL.cons (Sn.pure rfl) (SnL.cons (Sn.pure rfl) SnL.nil)) (fiducialref03_Same_ok n v7.1 v17 true hc20)), (List.forall_mem_cons.2 ⟨(callOk_ref (l := []) (args' := [aI64 12, aI64 52]) (SnL.cons (Sn.pure rfl) (SnL.cons (Sn.pure rfl) SnL.nil)) (fiducialref03_Whole_ok n 12 52 v22 hc23)), (List.forall_mem_cons.2 ⟨(callOk_val (l := []) (args' := [.agg [aB v9.1.Low.Num.Negative, sU32 v9.1.Low.Num.Groups, aB v9.1.Low.Den.Negative, sU32 v9.1.Low.Den.Groups, aB v9.1.High.Num.Negative, sU32 v9.1.High.Num.Groups, aB v9.1.High.Den.Negative, sU32 v9.1.High.Den.Groups], .agg [aB v22.Low.Num.Negative, sU32 v22.Low.Num.Groups, aB v22.Low.Den.Negative, sU32 v22.Low.Den.Groups, aB v22.High.Num.Negative, sU32 v22.High.Num.Groups, aB v22.High.Den.Negative, sU32 v22.High.Den.Groups]]) rfl (SnL.cons (Sn.pure rfl) (SnL.cons (Sn.pure rfl) SnL.nil)) (fiducialref03_Same_ok n v9.1 v22 true hc25)), (List.forall_mem_cons.2 ⟨(callOk_ref (l := []) (args' := [aI64 4, aI64 28]) (SnL.cons (Sn.pure rfl) (SnL.cons (Sn.pure rfl) SnL.nil)) (fiducialref03_Whole_ok n 4 28 v27 hc28)), (List.forall_mem_cons.2 ⟨(callOk_val (l := []) (args' := [.agg [aB v9.2.1.Low.Num.Negative, sU32 v9.2.1.Low.Num.Groups, aB v9.2.1.Low.Den.Negative, sU32 v9.2.1.Low.Den.Groups, aB v9.2.1.High.Num.Negative, sU32 v9.2.1.High.Num.Groups, aB v9.2.1.High.Den.Negative, sU32 v9.2.1.High.Den.Groups], .agg [aB v27.Low.Num.Negative, sU32 v27.Low.Num.Groups, aB v27.Low.Den.Negative, sU32 v27.Low.Den.Groups, aB v27.High.Num.Negative, sU32 v27.High.Num.Groups, aB v27.High.Den.Negative, sU32 v27.High.Den.Groups]]) rfl (SnL.cons (Sn.pure rfl) (SnL.cons (Sn.pure rfl) SnL.nil)) (fiducialref03_Same_ok n v9.2.1 v27 v29 hc30)), ce0⟩)⟩)⟩)⟩)⟩)⟩)⟩)) ?_
       refine EVT.p1 (aI64 v5.2) ?_
       refine EVT.pure (v := aB true) (by kernel_rfl) (Eq.trans (b := some (.pure (aB ((v5.2 : Int) == 0)))) (by kernel_rfl) (by rw [hb11])) (by kernel_rfl) ?_
       refine EVT.p1 (aB true) ?_
       refine EVT.p1 (aI64 v7.2) ?_
       refine EVT.pure (v := aB true) (by kernel_rfl) (Eq.trans (b := some (.pure (aB ((v7.2 : Int) == 0)))) (by kernel_rfl) (by rw [hb12])) (by kernel_rfl) ?_
       refine EVT.p1 (aB true) ?_
       refine EVT.p1 (aB true) ?_
       refine EVT.p1 (aI64 v9.2.2) ?_
       refine EVT.pure (v := aB true) (by kernel_rfl) (Eq.trans (b := some (.pure (aB ((v9.2.2 : Int) == 0)))) (by kernel_rfl) (by rw [hb13])) (by kernel_rfl) ?_
       refine EVT.p1 (aB true) ?_
       refine EVT.p1 (aB true) ?_
       refine EVT.p1 (sI64 v5.1) ?_
       refine EVT.e1 (.hs 8 0 4 1) [(8, .own [aI64 0, aI64 1, aI64 2, aI64 0])] ?_
       refine EVT.cal (by kernel_rfl) (by kernel_rfl) (callOf_at (by kernel_rfl)) (by kernel_rfl) ?_
       refine EVT.p1 (aB true) ?_
       refine EVT.p1 (aB true) ?_
       refine EVT.p1 (.agg [aB v7.1.Low.Num.Negative, sU32 v7.1.Low.Num.Groups, aB v7.1.Low.Den.Negative, sU32 v7.1.Low.Den.Groups, aB v7.1.High.Num.Negative, sU32 v7.1.High.Num.Groups, aB v7.1.High.Den.Negative, sU32 v7.1.High.Den.Groups]) ?_
       refine EVT.cal (by kernel_rfl) (by kernel_rfl) (callOf_skip (fun h _ => absurd (show (19 : Nat) = 17 from h) (by decide)) (callOf_at (by kernel_rfl))) (by kernel_rfl) ?_
       refine EVT.cal (by kernel_rfl) (by kernel_rfl) (callOf_skip (fun h _ => absurd (show (18 : Nat) = 17 from h) (by decide)) (callOf_skip (fun h _ => absurd (show (18 : Nat) = 19 from h) (by decide)) (callOf_at (by kernel_rfl)))) (by kernel_rfl) ?_
       refine EVT.p1 (aB true) ?_
       refine EVT.p1 (aB true) ?_
       refine EVT.p1 (.agg [aB v9.1.Low.Num.Negative, sU32 v9.1.Low.Num.Groups, aB v9.1.Low.Den.Negative, sU32 v9.1.Low.Den.Groups, aB v9.1.High.Num.Negative, sU32 v9.1.High.Num.Groups, aB v9.1.High.Den.Negative, sU32 v9.1.High.Den.Groups]) ?_
       refine EVT.cal (by kernel_rfl) (by kernel_rfl) (callOf_skip (fun h _ => absurd (show (19 : Nat) = 17 from h) (by decide)) (callOf_skip (fun _ h => by obtain ⟨e0, e1⟩ := fiducialref03_Whole_inj h; rw [show v22 = v17 from Option.some.inj (hc23.symm.trans ((show fiducialref03_Whole n 12 52 = fiducialref03_Whole n (-16) 48 from (congr (congr rfl e0) e1)).trans hc18))]) (callOf_skip (fun h _ => absurd (show (19 : Nat) = 18 from h) (by decide)) (callOf_at (by kernel_rfl))))) (by kernel_rfl) ?_
       refine EVT.cal (by kernel_rfl) (by kernel_rfl) (callOf_skip (fun h _ => absurd (show (18 : Nat) = 17 from h) (by decide)) (callOf_skip (fun h _ => absurd (show (18 : Nat) = 19 from h) (by decide)) (callOf_skip (fun _ h => by obtain ⟨e0, e1⟩ := fiducialref03_Same_inj h; rw [show true = true from Option.some.inj (hc25.symm.trans ((show fiducialref03_Same n v9.1 v22 = fiducialref03_Same n v7.1 v17 from (congr (congr rfl e0) e1)).trans hc20))]) (callOf_skip (fun h _ => absurd (show (18 : Nat) = 19 from h) (by decide)) (callOf_at (by kernel_rfl)))))) (by kernel_rfl) ?_
       refine EVT.p1 (aB true) ?_
       refine EVT.p1 (aB true) ?_
       refine EVT.p1 (.agg [aB v9.2.1.Low.Num.Negative, sU32 v9.2.1.Low.Num.Groups, aB v9.2.1.Low.Den.Negative, sU32 v9.2.1.Low.Den.Groups, aB v9.2.1.High.Num.Negative, sU32 v9.2.1.High.Num.Groups, aB v9.2.1.High.Den.Negative, sU32 v9.2.1.High.Den.Groups]) ?_
       refine EVT.cal (by kernel_rfl) (by kernel_rfl) (callOf_skip (fun h _ => absurd (show (19 : Nat) = 17 from h) (by decide)) (callOf_skip (fun _ h => by obtain ⟨e0, e1⟩ := fiducialref03_Whole_inj h; rw [show v27 = v17 from Option.some.inj (hc28.symm.trans ((show fiducialref03_Whole n 4 28 = fiducialref03_Whole n (-16) 48 from (congr (congr rfl e0) e1)).trans hc18))]) (callOf_skip (fun h _ => absurd (show (19 : Nat) = 18 from h) (by decide)) (callOf_skip (fun _ h => by obtain ⟨e0, e1⟩ := fiducialref03_Whole_inj h; rw [show v27 = v22 from Option.some.inj (hc28.symm.trans ((show fiducialref03_Whole n 4 28 = fiducialref03_Whole n 12 52 from (congr (congr rfl e0) e1)).trans hc23))]) (callOf_skip (fun h _ => absurd (show (19 : Nat) = 18 from h) (by decide)) (callOf_at (by kernel_rfl))))))) (by kernel_rfl) ?_
       refine EVT.cal (by kernel_rfl) (by kernel_rfl) (callOf_skip (fun h _ => absurd (show (18 : Nat) = 17 from h) (by decide)) (callOf_skip (fun h _ => absurd (show (18 : Nat) = 19 from h) (by decide)) (callOf_skip (fun _ h => by obtain ⟨e0, e1⟩ := fiducialref03_Same_inj h; rw [show v29 = true from Option.some.inj (hc30.symm.trans ((show fiducialref03_Same n v9.2.1 v27 = fiducialref03_Same n v7.1 v17 from (congr (congr rfl e0) e1)).trans hc20))]) (callOf_skip (fun h _ => absurd (show (18 : Nat) = 19 from h) (by decide)) (callOf_skip (fun _ h => by obtain ⟨e0, e1⟩ := fiducialref03_Same_inj h; rw [show v29 = true from Option.some.inj (hc30.symm.trans ((show fiducialref03_Same n v9.2.1 v27 = fiducialref03_Same n v9.1 v22 from (congr (congr rfl e0) e1)).trans hc25))]) (callOf_skip (fun h _ => absurd (show (18 : Nat) = 19 from h) (by decide)) (callOf_at (by kernel_rfl)))))))) (by kernel_rfl) ?_
       refine EVT.p1 (aB v29) ?_
       refine EVT.p1 (aB v29) ?_
       refine EVT.done ⟨by kernel_rfl, ?_⟩
       refine CQ.ret ?_
       obtain rfl := Option.some.inj hr
       exact FinQ.r1 [aB v29]
      ·subst hb26
       replace hr := cd_f rfl hr
       refine CQ.regionT fine (callOf_ok [{ f := 17, args := [sI64 v5.1, .hs 8 0 4 1], H := [.fix [aI64 0, aI64 0, aI64 0, aI64 0], .fix [aI64 0, aI64 5, aI64 (-3), aI64 2], .own [aI64 v1.Grid.X0, aI64 v1.Grid.Y0, aI64 v1.Grid.Step, aI64 v1.Grid.Width, aI64 v1.Grid.Height, sI64 v1.Grid.Z, sI64 v1.Err], .own [aI64 v3.Grid.X0, aI64 v3.Grid.Y0, aI64 v3.Grid.Step, aI64 v3.Grid.Width, aI64 v3.Grid.Height, sI64 v3.Grid.Z, sI64 v3.Err], .fix [aB true, aB true, aB true, aB true], .own [aB v7.1.Low.Num.Negative, sU32 v7.1.Low.Num.Groups, aB v7.1.Low.Den.Negative, sU32 v7.1.Low.Den.Groups, aB v7.1.High.Num.Negative, sU32 v7.1.High.Num.Groups, aB v7.1.High.Den.Negative, sU32 v7.1.High.Den.Groups], .own [aB v9.1.Low.Num.Negative, sU32 v9.1.Low.Num.Groups, aB v9.1.Low.Den.Negative, sU32 v9.1.Low.Den.Groups, aB v9.1.High.Num.Negative, sU32 v9.1.High.Num.Groups, aB v9.1.High.Den.Negative, sU32 v9.1.High.Den.Groups], .own [aB v9.2.1.Low.Num.Negative, sU32 v9.2.1.Low.Num.Groups, aB v9.2.1.Low.Den.Negative, sU32 v9.2.1.Low.Den.Groups, aB v9.2.1.High.Num.Negative, sU32 v9.2.1.High.Num.Groups, aB v9.2.1.High.Den.Negative, sU32 v9.2.1.High.Den.Groups], .own [aI64 0, aI64 1, aI64 2, aI64 0]], r := .loc (aB true) [] [8] 0 : CE }, { f := 19, args := [aI64 (-16), aI64 48], H := [.fix [aI64 0, aI64 0, aI64 0, aI64 0], .fix [aI64 0, aI64 5, aI64 (-3), aI64 2], .own [aI64 v1.Grid.X0, aI64 v1.Grid.Y0, aI64 v1.Grid.Step, aI64 v1.Grid.Width, aI64 v1.Grid.Height, sI64 v1.Grid.Z, sI64 v1.Err], .own [aI64 v3.Grid.X0, aI64 v3.Grid.Y0, aI64 v3.Grid.Step, aI64 v3.Grid.Width, aI64 v3.Grid.Height, sI64 v3.Grid.Z, sI64 v3.Err], .fix [aB true, aB true, aB true, aB true], .own [aB v7.1.Low.Num.Negative, sU32 v7.1.Low.Num.Groups, aB v7.1.Low.Den.Negative, sU32 v7.1.Low.Den.Groups, aB v7.1.High.Num.Negative, sU32 v7.1.High.Num.Groups, aB v7.1.High.Den.Negative, sU32 v7.1.High.Den.Groups], .own [aB v9.1.Low.Num.Negative, sU32 v9.1.Low.Num.Groups, aB v9.1.Low.Den.Negative, sU32 v9.1.Low.Den.Groups, aB v9.1.High.Num.Negative, sU32 v9.1.High.Num.Groups, aB v9.1.High.Den.Negative, sU32 v9.1.High.Den.Groups], .own [aB v9.2.1.Low.Num.Negative, sU32 v9.2.1.Low.Num.Groups, aB v9.2.1.Low.Den.Negative, sU32 v9.2.1.Low.Den.Groups, aB v9.2.1.High.Num.Negative, sU32 v9.2.1.High.Num.Groups, aB v9.2.1.High.Den.Negative, sU32 v9.2.1.High.Den.Groups], .own [aI64 0, aI64 1, aI64 2, aI64 0]], r := .loc (.agg [aB v17.Low.Num.Negative, sU32 v17.Low.Num.Groups, aB v17.Low.Den.Negative, sU32 v17.Low.Den.Groups, aB v17.High.Num.Negative, sU32 v17.High.Num.Groups, aB v17.High.Den.Negative, sU32 v17.High.Den.Groups]) [] [] 0 : CE }, { f := 18, args := [.agg [aB v7.1.Low.Num.Negative, sU32 v7.1.Low.Num.Groups, aB v7.1.Low.Den.Negative, sU32 v7.1.Low.Den.Groups, aB v7.1.High.Num.Negative, sU32 v7.1.High.Num.Groups, aB v7.1.High.Den.Negative, sU32 v7.1.High.Den.Groups], .agg [aB v17.Low.Num.Negative, sU32 v17.Low.Num.Groups, aB v17.Low.Den.Negative, sU32 v17.Low.Den.Groups, aB v17.High.Num.Negative, sU32 v17.High.Num.Groups, aB v17.High.Den.Negative, sU32 v17.High.Den.Groups]], H := [.fix [aI64 0, aI64 0, aI64 0, aI64 0], .fix [aI64 0, aI64 5, aI64 (-3), aI64 2], .own [aI64 v1.Grid.X0, aI64 v1.Grid.Y0, aI64 v1.Grid.Step, aI64 v1.Grid.Width, aI64 v1.Grid.Height, sI64 v1.Grid.Z, sI64 v1.Err], .own [aI64 v3.Grid.X0, aI64 v3.Grid.Y0, aI64 v3.Grid.Step, aI64 v3.Grid.Width, aI64 v3.Grid.Height, sI64 v3.Grid.Z, sI64 v3.Err], .fix [aB true, aB true, aB true, aB true], .own [aB v7.1.Low.Num.Negative, sU32 v7.1.Low.Num.Groups, aB v7.1.Low.Den.Negative, sU32 v7.1.Low.Den.Groups, aB v7.1.High.Num.Negative, sU32 v7.1.High.Num.Groups, aB v7.1.High.Den.Negative, sU32 v7.1.High.Den.Groups], .own [aB v9.1.Low.Num.Negative, sU32 v9.1.Low.Num.Groups, aB v9.1.Low.Den.Negative, sU32 v9.1.Low.Den.Groups, aB v9.1.High.Num.Negative, sU32 v9.1.High.Num.Groups, aB v9.1.High.Den.Negative, sU32 v9.1.High.Den.Groups], .own [aB v9.2.1.Low.Num.Negative, sU32 v9.2.1.Low.Num.Groups, aB v9.2.1.Low.Den.Negative, sU32 v9.2.1.Low.Den.Groups, aB v9.2.1.High.Num.Negative, sU32 v9.2.1.High.Num.Groups, aB v9.2.1.High.Den.Negative, sU32 v9.2.1.High.Den.Groups], .own [aI64 0, aI64 1, aI64 2, aI64 0]], r := .loc (aB true) [] [] 0 : CE }, { f := 19, args := [aI64 12, aI64 52], H := [.fix [aI64 0, aI64 0, aI64 0, aI64 0], .fix [aI64 0, aI64 5, aI64 (-3), aI64 2], .own [aI64 v1.Grid.X0, aI64 v1.Grid.Y0, aI64 v1.Grid.Step, aI64 v1.Grid.Width, aI64 v1.Grid.Height, sI64 v1.Grid.Z, sI64 v1.Err], .own [aI64 v3.Grid.X0, aI64 v3.Grid.Y0, aI64 v3.Grid.Step, aI64 v3.Grid.Width, aI64 v3.Grid.Height, sI64 v3.Grid.Z, sI64 v3.Err], .fix [aB true, aB true, aB true, aB true], .own [aB v7.1.Low.Num.Negative, sU32 v7.1.Low.Num.Groups, aB v7.1.Low.Den.Negative, sU32 v7.1.Low.Den.Groups, aB v7.1.High.Num.Negative, sU32 v7.1.High.Num.Groups, aB v7.1.High.Den.Negative, sU32 v7.1.High.Den.Groups], .own [aB v9.1.Low.Num.Negative, sU32 v9.1.Low.Num.Groups, aB v9.1.Low.Den.Negative, sU32 v9.1.Low.Den.Groups, aB v9.1.High.Num.Negative, sU32 v9.1.High.Num.Groups, aB v9.1.High.Den.Negative, sU32 v9.1.High.Den.Groups], .own [aB v9.2.1.Low.Num.Negative, sU32 v9.2.1.Low.Num.Groups, aB v9.2.1.Low.Den.Negative, sU32 v9.2.1.Low.Den.Groups, aB v9.2.1.High.Num.Negative, sU32 v9.2.1.High.Num.Groups, aB v9.2.1.High.Den.Negative, sU32 v9.2.1.High.Den.Groups], .own [aI64 0, aI64 1, aI64 2, aI64 0]], r := .loc (.agg [aB v22.Low.Num.Negative, sU32 v22.Low.Num.Groups, aB v22.Low.Den.Negative, sU32 v22.Low.Den.Groups, aB v22.High.Num.Negative, sU32 v22.High.Num.Groups, aB v22.High.Den.Negative, sU32 v22.High.Den.Groups]) [] [] 0 : CE }, { f := 18, args := [.agg [aB v9.1.Low.Num.Negative, sU32 v9.1.Low.Num.Groups, aB v9.1.Low.Den.Negative, sU32 v9.1.Low.Den.Groups, aB v9.1.High.Num.Negative, sU32 v9.1.High.Num.Groups, aB v9.1.High.Den.Negative, sU32 v9.1.High.Den.Groups], .agg [aB v22.Low.Num.Negative, sU32 v22.Low.Num.Groups, aB v22.Low.Den.Negative, sU32 v22.Low.Den.Groups, aB v22.High.Num.Negative, sU32 v22.High.Num.Groups, aB v22.High.Den.Negative, sU32 v22.High.Den.Groups]], H := [.fix [aI64 0, aI64 0, aI64 0, aI64 0], .fix [aI64 0, aI64 5, aI64 (-3), aI64 2], .own [aI64 v1.Grid.X0, aI64 v1.Grid.Y0, aI64 v1.Grid.Step, aI64 v1.Grid.Width, aI64 v1.Grid.Height, sI64 v1.Grid.Z, sI64 v1.Err], .own [aI64 v3.Grid.X0, aI64 v3.Grid.Y0, aI64 v3.Grid.Step, aI64 v3.Grid.Width, aI64 v3.Grid.Height, sI64 v3.Grid.Z, sI64 v3.Err], .fix [aB true, aB true, aB true, aB true], .own [aB v7.1.Low.Num.Negative, sU32 v7.1.Low.Num.Groups, aB v7.1.Low.Den.Negative, sU32 v7.1.Low.Den.Groups, aB v7.1.High.Num.Negative, sU32 v7.1.High.Num.Groups, aB v7.1.High.Den.Negative, sU32 v7.1.High.Den.Groups], .own [aB v9.1.Low.Num.Negative, sU32 v9.1.Low.Num.Groups, aB v9.1.Low.Den.Negative, sU32 v9.1.Low.Den.Groups, aB v9.1.High.Num.Negative, sU32 v9.1.High.Num.Groups, aB v9.1.High.Den.Negative, sU32 v9.1.High.Den.Groups], .own [aB v9.2.1.Low.Num.Negative, sU32 v9.2.1.Low.Num.Groups, aB v9.2.1.Low.Den.Negative, sU32 v9.2.1.Low.Den.Groups, aB v9.2.1.High.Num.Negative, sU32 v9.2.1.High.Num.Groups, aB v9.2.1.High.Den.Negative, sU32 v9.2.1.High.Den.Groups], .own [aI64 0, aI64 1, aI64 2, aI64 0]], r := .loc (aB false) [] [] 0 : CE }] (List.forall_mem_cons.2 ⟨(callOk_val (l := [8]) (args' := [sI64 v5.1, sI64 [0, 1, 2, 0]]) rfl (SnL.cons (Sn.pure rfl) (SnL.cons (Sn.hs rfl (.inl rfl) (SnC.cons (Sn.pure rfl) (SnC.cons (Sn.pure rfl) (SnC.cons (Sn.pure rfl) (SnC.cons (Sn.pure rfl) SnC.nil)))) (fun h => nomatch h)) SnL.nil)) (slices_Equal_fiducial_api_Verdict_fiducial_api_Verdict_ok n v5.1 [0, 1, 2, 0] true hc15)), (List.forall_mem_cons.2 ⟨(callOk_ref (l := []) (args' := [aI64 (-16), aI64 48]) (SnL.cons (Sn.pure rfl) (SnL.cons (Sn.pure rfl) SnL.nil)) (fiducialref03_Whole_ok n (-16) 48 v17 hc18)), (List.forall_mem_cons.2 ⟨(callOk_val (l := []) (args' := [.agg [aB v7.1.Low.Num.Negative, sU32 v7.1.Low.Num.Groups, aB v7.1.Low.Den.Negative, sU32 v7.1.Low.Den.Groups, aB v7.1.High.Num.Negative, sU32 v7.1.High.Num.Groups, aB v7.1.High.Den.Negative, sU32 v7.1.High.Den.Groups], .agg [aB v17.Low.Num.Negative, sU32 v17.Low.Num.Groups, aB v17.Low.Den.Negative, sU32 v17.Low.Den.Groups, aB v17.High.Num.Negative, sU32 v17.High.Num.Groups, aB v17.High.Den.Negative, sU32 v17.High.Den.Groups]]) rfl (SnL.cons (Sn.pure rfl) (SnL.cons (Sn.pure rfl) SnL.nil)) (fiducialref03_Same_ok n v7.1 v17 true hc20)), (List.forall_mem_cons.2 ⟨(callOk_ref (l := []) (args' := [aI64 12, aI64 52]) (SnL.cons (Sn.pure rfl) (SnL.cons (Sn.pure rfl) SnL.nil)) (fiducialref03_Whole_ok n 12 52 v22 hc23)), (List.forall_mem_cons.2 ⟨(callOk_val (l := []) (args' := [.agg [aB v9.1.Low.Num.Negative, sU32 v9.1.Low.Num.Groups, aB v9.1.Low.Den.Negative, sU32 v9.1.Low.Den.Groups, aB v9.1.High.Num.Negative, sU32 v9.1.High.Num.Groups, aB v9.1.High.Den.Negative, sU32 v9.1.High.Den.Groups], .agg [aB v22.Low.Num.Negative, sU32 v22.Low.Num.Groups, aB v22.Low.Den.Negative, sU32 v22.Low.Den.Groups, aB v22.High.Num.Negative, sU32 v22.High.Num.Groups, aB v22.High.Den.Negative, sU32 v22.High.Den.Groups]]) rfl (SnL.cons (Sn.pure rfl) (SnL.cons (Sn.pure rfl) SnL.nil)) (fiducialref03_Same_ok n v9.1 v22 false hc25)), ce0⟩)⟩)⟩)⟩)⟩)) ?_
       refine EVT.p1 (aI64 v5.2) ?_
       refine EVT.pure (v := aB true) (by kernel_rfl) (Eq.trans (b := some (.pure (aB ((v5.2 : Int) == 0)))) (by kernel_rfl) (by rw [hb11])) (by kernel_rfl) ?_
       refine EVT.p1 (aB true) ?_
       refine EVT.p1 (aI64 v7.2) ?_
       refine EVT.pure (v := aB true) (by kernel_rfl) (Eq.trans (b := some (.pure (aB ((v7.2 : Int) == 0)))) (by kernel_rfl) (by rw [hb12])) (by kernel_rfl) ?_
       refine EVT.p1 (aB true) ?_
       refine EVT.p1 (aB true) ?_
       refine EVT.p1 (aI64 v9.2.2) ?_
       refine EVT.pure (v := aB true) (by kernel_rfl) (Eq.trans (b := some (.pure (aB ((v9.2.2 : Int) == 0)))) (by kernel_rfl) (by rw [hb13])) (by kernel_rfl) ?_
       refine EVT.p1 (aB true) ?_
       refine EVT.p1 (aB true) ?_
       refine EVT.p1 (sI64 v5.1) ?_
       refine EVT.e1 (.hs 8 0 4 1) [(8, .own [aI64 0, aI64 1, aI64 2, aI64 0])] ?_
       refine EVT.cal (by kernel_rfl) (by kernel_rfl) (callOf_at (by kernel_rfl)) (by kernel_rfl) ?_
       refine EVT.p1 (aB true) ?_
       refine EVT.p1 (aB true) ?_
       refine EVT.p1 (.agg [aB v7.1.Low.Num.Negative, sU32 v7.1.Low.Num.Groups, aB v7.1.Low.Den.Negative, sU32 v7.1.Low.Den.Groups, aB v7.1.High.Num.Negative, sU32 v7.1.High.Num.Groups, aB v7.1.High.Den.Negative, sU32 v7.1.High.Den.Groups]) ?_
       refine EVT.cal (by kernel_rfl) (by kernel_rfl) (callOf_skip (fun h _ => absurd (show (19 : Nat) = 17 from h) (by decide)) (callOf_at (by kernel_rfl))) (by kernel_rfl) ?_
       refine EVT.cal (by kernel_rfl) (by kernel_rfl) (callOf_skip (fun h _ => absurd (show (18 : Nat) = 17 from h) (by decide)) (callOf_skip (fun h _ => absurd (show (18 : Nat) = 19 from h) (by decide)) (callOf_at (by kernel_rfl)))) (by kernel_rfl) ?_
       refine EVT.p1 (aB true) ?_
       refine EVT.p1 (aB true) ?_
       refine EVT.p1 (.agg [aB v9.1.Low.Num.Negative, sU32 v9.1.Low.Num.Groups, aB v9.1.Low.Den.Negative, sU32 v9.1.Low.Den.Groups, aB v9.1.High.Num.Negative, sU32 v9.1.High.Num.Groups, aB v9.1.High.Den.Negative, sU32 v9.1.High.Den.Groups]) ?_
       refine EVT.cal (by kernel_rfl) (by kernel_rfl) (callOf_skip (fun h _ => absurd (show (19 : Nat) = 17 from h) (by decide)) (callOf_skip (fun _ h => by obtain ⟨e0, e1⟩ := fiducialref03_Whole_inj h; rw [show v22 = v17 from Option.some.inj (hc23.symm.trans ((show fiducialref03_Whole n 12 52 = fiducialref03_Whole n (-16) 48 from (congr (congr rfl e0) e1)).trans hc18))]) (callOf_skip (fun h _ => absurd (show (19 : Nat) = 18 from h) (by decide)) (callOf_at (by kernel_rfl))))) (by kernel_rfl) ?_
       refine EVT.cal (by kernel_rfl) (by kernel_rfl) (callOf_skip (fun h _ => absurd (show (18 : Nat) = 17 from h) (by decide)) (callOf_skip (fun h _ => absurd (show (18 : Nat) = 19 from h) (by decide)) (callOf_skip (fun _ h => by obtain ⟨e0, e1⟩ := fiducialref03_Same_inj h; rw [show false = true from Option.some.inj (hc25.symm.trans ((show fiducialref03_Same n v9.1 v22 = fiducialref03_Same n v7.1 v17 from (congr (congr rfl e0) e1)).trans hc20))]) (callOf_skip (fun h _ => absurd (show (18 : Nat) = 19 from h) (by decide)) (callOf_at (by kernel_rfl)))))) (by kernel_rfl) ?_
       refine EVT.p1 (aB false) ?_
       refine EVT.p1 (aB false) ?_
       refine EVT.s1 ?_
       refine EVT.s1 ?_
       refine EVT.s1 ?_
       refine EVT.p1 (aB false) ?_
       refine EVT.p1 (aB false) ?_
       refine EVT.done ⟨by kernel_rfl, ?_⟩
       refine CQ.ret ?_
       obtain rfl := Option.some.inj hr
       exact FinQ.r1 [aB false]
     ·subst hb21
      replace hr := cd_f rfl hr
      refine CQ.regionT fine (callOf_ok [{ f := 17, args := [sI64 v5.1, .hs 8 0 4 1], H := [.fix [aI64 0, aI64 0, aI64 0, aI64 0], .fix [aI64 0, aI64 5, aI64 (-3), aI64 2], .own [aI64 v1.Grid.X0, aI64 v1.Grid.Y0, aI64 v1.Grid.Step, aI64 v1.Grid.Width, aI64 v1.Grid.Height, sI64 v1.Grid.Z, sI64 v1.Err], .own [aI64 v3.Grid.X0, aI64 v3.Grid.Y0, aI64 v3.Grid.Step, aI64 v3.Grid.Width, aI64 v3.Grid.Height, sI64 v3.Grid.Z, sI64 v3.Err], .fix [aB true, aB true, aB true, aB true], .own [aB v7.1.Low.Num.Negative, sU32 v7.1.Low.Num.Groups, aB v7.1.Low.Den.Negative, sU32 v7.1.Low.Den.Groups, aB v7.1.High.Num.Negative, sU32 v7.1.High.Num.Groups, aB v7.1.High.Den.Negative, sU32 v7.1.High.Den.Groups], .own [aB v9.1.Low.Num.Negative, sU32 v9.1.Low.Num.Groups, aB v9.1.Low.Den.Negative, sU32 v9.1.Low.Den.Groups, aB v9.1.High.Num.Negative, sU32 v9.1.High.Num.Groups, aB v9.1.High.Den.Negative, sU32 v9.1.High.Den.Groups], .own [aB v9.2.1.Low.Num.Negative, sU32 v9.2.1.Low.Num.Groups, aB v9.2.1.Low.Den.Negative, sU32 v9.2.1.Low.Den.Groups, aB v9.2.1.High.Num.Negative, sU32 v9.2.1.High.Num.Groups, aB v9.2.1.High.Den.Negative, sU32 v9.2.1.High.Den.Groups], .own [aI64 0, aI64 1, aI64 2, aI64 0]], r := .loc (aB true) [] [8] 0 : CE }, { f := 19, args := [aI64 (-16), aI64 48], H := [.fix [aI64 0, aI64 0, aI64 0, aI64 0], .fix [aI64 0, aI64 5, aI64 (-3), aI64 2], .own [aI64 v1.Grid.X0, aI64 v1.Grid.Y0, aI64 v1.Grid.Step, aI64 v1.Grid.Width, aI64 v1.Grid.Height, sI64 v1.Grid.Z, sI64 v1.Err], .own [aI64 v3.Grid.X0, aI64 v3.Grid.Y0, aI64 v3.Grid.Step, aI64 v3.Grid.Width, aI64 v3.Grid.Height, sI64 v3.Grid.Z, sI64 v3.Err], .fix [aB true, aB true, aB true, aB true], .own [aB v7.1.Low.Num.Negative, sU32 v7.1.Low.Num.Groups, aB v7.1.Low.Den.Negative, sU32 v7.1.Low.Den.Groups, aB v7.1.High.Num.Negative, sU32 v7.1.High.Num.Groups, aB v7.1.High.Den.Negative, sU32 v7.1.High.Den.Groups], .own [aB v9.1.Low.Num.Negative, sU32 v9.1.Low.Num.Groups, aB v9.1.Low.Den.Negative, sU32 v9.1.Low.Den.Groups, aB v9.1.High.Num.Negative, sU32 v9.1.High.Num.Groups, aB v9.1.High.Den.Negative, sU32 v9.1.High.Den.Groups], .own [aB v9.2.1.Low.Num.Negative, sU32 v9.2.1.Low.Num.Groups, aB v9.2.1.Low.Den.Negative, sU32 v9.2.1.Low.Den.Groups, aB v9.2.1.High.Num.Negative, sU32 v9.2.1.High.Num.Groups, aB v9.2.1.High.Den.Negative, sU32 v9.2.1.High.Den.Groups], .own [aI64 0, aI64 1, aI64 2, aI64 0]], r := .loc (.agg [aB v17.Low.Num.Negative, sU32 v17.Low.Num.Groups, aB v17.Low.Den.Negative, sU32 v17.Low.Den.Groups, aB v17.High.Num.Negative, sU32 v17.High.Num.Groups, aB v17.High.Den.Negative, sU32 v17.High.Den.Groups]) [] [] 0 : CE }, { f := 18, args := [.agg [aB v7.1.Low.Num.Negative, sU32 v7.1.Low.Num.Groups, aB v7.1.Low.Den.Negative, sU32 v7.1.Low.Den.Groups, aB v7.1.High.Num.Negative, sU32 v7.1.High.Num.Groups, aB v7.1.High.Den.Negative, sU32 v7.1.High.Den.Groups], .agg [aB v17.Low.Num.Negative, sU32 v17.Low.Num.Groups, aB v17.Low.Den.Negative, sU32 v17.Low.Den.Groups, aB v17.High.Num.Negative, sU32 v17.High.Num.Groups, aB v17.High.Den.Negative, sU32 v17.High.Den.Groups]], H := [.fix [aI64 0, aI64 0, aI64 0, aI64 0], .fix [aI64 0, aI64 5, aI64 (-3), aI64 2], .own [aI64 v1.Grid.X0, aI64 v1.Grid.Y0, aI64 v1.Grid.Step, aI64 v1.Grid.Width, aI64 v1.Grid.Height, sI64 v1.Grid.Z, sI64 v1.Err], .own [aI64 v3.Grid.X0, aI64 v3.Grid.Y0, aI64 v3.Grid.Step, aI64 v3.Grid.Width, aI64 v3.Grid.Height, sI64 v3.Grid.Z, sI64 v3.Err], .fix [aB true, aB true, aB true, aB true], .own [aB v7.1.Low.Num.Negative, sU32 v7.1.Low.Num.Groups, aB v7.1.Low.Den.Negative, sU32 v7.1.Low.Den.Groups, aB v7.1.High.Num.Negative, sU32 v7.1.High.Num.Groups, aB v7.1.High.Den.Negative, sU32 v7.1.High.Den.Groups], .own [aB v9.1.Low.Num.Negative, sU32 v9.1.Low.Num.Groups, aB v9.1.Low.Den.Negative, sU32 v9.1.Low.Den.Groups, aB v9.1.High.Num.Negative, sU32 v9.1.High.Num.Groups, aB v9.1.High.Den.Negative, sU32 v9.1.High.Den.Groups], .own [aB v9.2.1.Low.Num.Negative, sU32 v9.2.1.Low.Num.Groups, aB v9.2.1.Low.Den.Negative, sU32 v9.2.1.Low.Den.Groups, aB v9.2.1.High.Num.Negative, sU32 v9.2.1.High.Num.Groups, aB v9.2.1.High.Den.Negative, sU32 v9.2.1.High.Den.Groups], .own [aI64 0, aI64 1, aI64 2, aI64 0]], r := .loc (aB false) [] [] 0 : CE }] (List.forall_mem_cons.2 ⟨(callOk_val (l := [8]) (args' := [sI64 v5.1, sI64 [0, 1, 2, 0]]) rfl (SnL.cons (Sn.pure rfl) (SnL.cons (Sn.hs rfl (.inl rfl) (SnC.cons (Sn.pure rfl) (SnC.cons (Sn.pure rfl) (SnC.cons (Sn.pure rfl) (SnC.cons (Sn.pure rfl) SnC.nil)))) (fun h => nomatch h)) SnL.nil)) (slices_Equal_fiducial_api_Verdict_fiducial_api_Verdict_ok n v5.1 [0, 1, 2, 0] true hc15)), (List.forall_mem_cons.2 ⟨(callOk_ref (l := []) (args' := [aI64 (-16), aI64 48]) (SnL.cons (Sn.pure rfl) (SnL.cons (Sn.pure rfl) SnL.nil)) (fiducialref03_Whole_ok n (-16) 48 v17 hc18)), (List.forall_mem_cons.2 ⟨(callOk_val (l := []) (args' := [.agg [aB v7.1.Low.Num.Negative, sU32 v7.1.Low.Num.Groups, aB v7.1.Low.Den.Negative, sU32 v7.1.Low.Den.Groups, aB v7.1.High.Num.Negative, sU32 v7.1.High.Num.Groups, aB v7.1.High.Den.Negative, sU32 v7.1.High.Den.Groups], .agg [aB v17.Low.Num.Negative, sU32 v17.Low.Num.Groups, aB v17.Low.Den.Negative, sU32 v17.Low.Den.Groups, aB v17.High.Num.Negative, sU32 v17.High.Num.Groups, aB v17.High.Den.Negative, sU32 v17.High.Den.Groups]]) rfl (SnL.cons (Sn.pure rfl) (SnL.cons (Sn.pure rfl) SnL.nil)) (fiducialref03_Same_ok n v7.1 v17 false hc20)), ce0⟩)⟩)⟩)) ?_
      refine EVT.p1 (aI64 v5.2) ?_
      refine EVT.pure (v := aB true) (by kernel_rfl) (Eq.trans (b := some (.pure (aB ((v5.2 : Int) == 0)))) (by kernel_rfl) (by rw [hb11])) (by kernel_rfl) ?_
      refine EVT.p1 (aB true) ?_
      refine EVT.p1 (aI64 v7.2) ?_
      refine EVT.pure (v := aB true) (by kernel_rfl) (Eq.trans (b := some (.pure (aB ((v7.2 : Int) == 0)))) (by kernel_rfl) (by rw [hb12])) (by kernel_rfl) ?_
      refine EVT.p1 (aB true) ?_
      refine EVT.p1 (aB true) ?_
      refine EVT.p1 (aI64 v9.2.2) ?_
      refine EVT.pure (v := aB true) (by kernel_rfl) (Eq.trans (b := some (.pure (aB ((v9.2.2 : Int) == 0)))) (by kernel_rfl) (by rw [hb13])) (by kernel_rfl) ?_
      refine EVT.p1 (aB true) ?_
      refine EVT.p1 (aB true) ?_
      refine EVT.p1 (sI64 v5.1) ?_
      refine EVT.e1 (.hs 8 0 4 1) [(8, .own [aI64 0, aI64 1, aI64 2, aI64 0])] ?_
      refine EVT.cal (by kernel_rfl) (by kernel_rfl) (callOf_at (by kernel_rfl)) (by kernel_rfl) ?_
      refine EVT.p1 (aB true) ?_
      refine EVT.p1 (aB true) ?_
      refine EVT.p1 (.agg [aB v7.1.Low.Num.Negative, sU32 v7.1.Low.Num.Groups, aB v7.1.Low.Den.Negative, sU32 v7.1.Low.Den.Groups, aB v7.1.High.Num.Negative, sU32 v7.1.High.Num.Groups, aB v7.1.High.Den.Negative, sU32 v7.1.High.Den.Groups]) ?_
      refine EVT.cal (by kernel_rfl) (by kernel_rfl) (callOf_skip (fun h _ => absurd (show (19 : Nat) = 17 from h) (by decide)) (callOf_at (by kernel_rfl))) (by kernel_rfl) ?_
      refine EVT.cal (by kernel_rfl) (by kernel_rfl) (callOf_skip (fun h _ => absurd (show (18 : Nat) = 17 from h) (by decide)) (callOf_skip (fun h _ => absurd (show (18 : Nat) = 19 from h) (by decide)) (callOf_at (by kernel_rfl)))) (by kernel_rfl) ?_
      refine EVT.p1 (aB false) ?_
      refine EVT.p1 (aB false) ?_
      refine EVT.s1 ?_
      refine EVT.s1 ?_
      refine EVT.s1 ?_
      refine EVT.p1 (aB false) ?_
      refine EVT.p1 (aB false) ?_
      refine EVT.s1 ?_
      refine EVT.s1 ?_
      refine EVT.s1 ?_
      refine EVT.p1 (aB false) ?_
      refine EVT.p1 (aB false) ?_
      refine EVT.done ⟨by kernel_rfl, ?_⟩
      refine CQ.ret ?_
      obtain rfl := Option.some.inj hr
      exact FinQ.r1 [aB false]
    ·subst hb16
     replace hr := cd_f rfl hr
     refine CQ.regionT fine (callOf_1 17 [sI64 v5.1, .hs 8 0 4 1] [.fix [aI64 0, aI64 0, aI64 0, aI64 0], .fix [aI64 0, aI64 5, aI64 (-3), aI64 2], .own [aI64 v1.Grid.X0, aI64 v1.Grid.Y0, aI64 v1.Grid.Step, aI64 v1.Grid.Width, aI64 v1.Grid.Height, sI64 v1.Grid.Z, sI64 v1.Err], .own [aI64 v3.Grid.X0, aI64 v3.Grid.Y0, aI64 v3.Grid.Step, aI64 v3.Grid.Width, aI64 v3.Grid.Height, sI64 v3.Grid.Z, sI64 v3.Err], .fix [aB true, aB true, aB true, aB true], .own [aB v7.1.Low.Num.Negative, sU32 v7.1.Low.Num.Groups, aB v7.1.Low.Den.Negative, sU32 v7.1.Low.Den.Groups, aB v7.1.High.Num.Negative, sU32 v7.1.High.Num.Groups, aB v7.1.High.Den.Negative, sU32 v7.1.High.Den.Groups], .own [aB v9.1.Low.Num.Negative, sU32 v9.1.Low.Num.Groups, aB v9.1.Low.Den.Negative, sU32 v9.1.Low.Den.Groups, aB v9.1.High.Num.Negative, sU32 v9.1.High.Num.Groups, aB v9.1.High.Den.Negative, sU32 v9.1.High.Den.Groups], .own [aB v9.2.1.Low.Num.Negative, sU32 v9.2.1.Low.Num.Groups, aB v9.2.1.Low.Den.Negative, sU32 v9.2.1.Low.Den.Groups, aB v9.2.1.High.Num.Negative, sU32 v9.2.1.High.Num.Groups, aB v9.2.1.High.Den.Negative, sU32 v9.2.1.High.Den.Groups], .own [aI64 0, aI64 1, aI64 2, aI64 0]] (.loc (aB false) [] [8] 0) (callOk_val (l := [8]) (args' := [sI64 v5.1, sI64 [0, 1, 2, 0]]) rfl (SnL.cons (Sn.pure rfl) (SnL.cons (Sn.hs rfl (.inl rfl) (SnC.cons (Sn.pure rfl) (SnC.cons (Sn.pure rfl) (SnC.cons (Sn.pure rfl) (SnC.cons (Sn.pure rfl) SnC.nil)))) (fun h => nomatch h)) SnL.nil)) (slices_Equal_fiducial_api_Verdict_fiducial_api_Verdict_ok n v5.1 [0, 1, 2, 0] false hc15))) ?_
     refine EVT.p1 (aI64 v5.2) ?_
     refine EVT.pure (v := aB true) (by kernel_rfl) (Eq.trans (b := some (.pure (aB ((v5.2 : Int) == 0)))) (by kernel_rfl) (by rw [hb11])) (by kernel_rfl) ?_
     refine EVT.p1 (aB true) ?_
     refine EVT.p1 (aI64 v7.2) ?_
     refine EVT.pure (v := aB true) (by kernel_rfl) (Eq.trans (b := some (.pure (aB ((v7.2 : Int) == 0)))) (by kernel_rfl) (by rw [hb12])) (by kernel_rfl) ?_
     refine EVT.p1 (aB true) ?_
     refine EVT.p1 (aB true) ?_
     refine EVT.p1 (aI64 v9.2.2) ?_
     refine EVT.pure (v := aB true) (by kernel_rfl) (Eq.trans (b := some (.pure (aB ((v9.2.2 : Int) == 0)))) (by kernel_rfl) (by rw [hb13])) (by kernel_rfl) ?_
     refine EVT.p1 (aB true) ?_
     refine EVT.p1 (aB true) ?_
     refine EVT.p1 (sI64 v5.1) ?_
     refine EVT.e1 (.hs 8 0 4 1) [(8, .own [aI64 0, aI64 1, aI64 2, aI64 0])] ?_
     refine EVT.cal (by kernel_rfl) (by kernel_rfl) (callOf_at (by kernel_rfl)) (by kernel_rfl) ?_
     refine EVT.p1 (aB false) ?_
     refine EVT.p1 (aB false) ?_
     refine EVT.s1 ?_
     refine EVT.s1 ?_
     refine EVT.s1 ?_
     refine EVT.p1 (aB false) ?_
     refine EVT.p1 (aB false) ?_
     refine EVT.s1 ?_
     refine EVT.s1 ?_
     refine EVT.s1 ?_
     refine EVT.p1 (aB false) ?_
     refine EVT.p1 (aB false) ?_
     refine EVT.s1 ?_
     refine EVT.s1 ?_
     refine EVT.s1 ?_
     refine EVT.p1 (aB false) ?_
     refine EVT.p1 (aB false) ?_
     refine EVT.done ⟨by kernel_rfl, ?_⟩
     refine CQ.ret ?_
     obtain rfl := Option.some.inj hr
     exact FinQ.r1 [aB false]
   ·replace hr := cd_f hb13 hr
    refine CQ.regionT fine callOf_nil ?_
    refine EVT.p1 (aI64 v5.2) ?_
    refine EVT.pure (v := aB true) (by kernel_rfl) (Eq.trans (b := some (.pure (aB ((v5.2 : Int) == 0)))) (by kernel_rfl) (by rw [hb11])) (by kernel_rfl) ?_
    refine EVT.p1 (aB true) ?_
    refine EVT.p1 (aI64 v7.2) ?_
    refine EVT.pure (v := aB true) (by kernel_rfl) (Eq.trans (b := some (.pure (aB ((v7.2 : Int) == 0)))) (by kernel_rfl) (by rw [hb12])) (by kernel_rfl) ?_
    refine EVT.p1 (aB true) ?_
    refine EVT.p1 (aB true) ?_
    refine EVT.p1 (aI64 v9.2.2) ?_
    refine EVT.pure (v := aB false) (by kernel_rfl) (Eq.trans (b := some (.pure (aB ((v9.2.2 : Int) == 0)))) (by kernel_rfl) (by rw [hb13])) (by kernel_rfl) ?_
    refine EVT.p1 (aB false) ?_
    refine EVT.p1 (aB false) ?_
    refine EVT.s1 ?_
    refine EVT.s1 ?_
    refine EVT.s1 ?_
    refine EVT.p1 (aB false) ?_
    refine EVT.p1 (aB false) ?_
    refine EVT.s1 ?_
    refine EVT.s1 ?_
    refine EVT.s1 ?_
    refine EVT.p1 (aB false) ?_
    refine EVT.p1 (aB false) ?_
    refine EVT.s1 ?_
    refine EVT.s1 ?_
    refine EVT.s1 ?_
    refine EVT.p1 (aB false) ?_
    refine EVT.p1 (aB false) ?_
    refine EVT.s1 ?_
    refine EVT.s1 ?_
    refine EVT.s1 ?_
    refine EVT.p1 (aB false) ?_
    refine EVT.p1 (aB false) ?_
    refine EVT.done ⟨by kernel_rfl, ?_⟩
    refine CQ.ret ?_
    obtain rfl := Option.some.inj hr
    exact FinQ.r1 [aB false]
  ·replace hr := cd_f hb12 hr
   refine CQ.regionT fine callOf_nil ?_
   refine EVT.p1 (aI64 v5.2) ?_
   refine EVT.pure (v := aB true) (by kernel_rfl) (Eq.trans (b := some (.pure (aB ((v5.2 : Int) == 0)))) (by kernel_rfl) (by rw [hb11])) (by kernel_rfl) ?_
   refine EVT.p1 (aB true) ?_
   refine EVT.p1 (aI64 v7.2) ?_
   refine EVT.pure (v := aB false) (by kernel_rfl) (Eq.trans (b := some (.pure (aB ((v7.2 : Int) == 0)))) (by kernel_rfl) (by rw [hb12])) (by kernel_rfl) ?_
   refine EVT.p1 (aB false) ?_
   refine EVT.p1 (aB false) ?_
   refine EVT.s1 ?_
   refine EVT.s1 ?_
   refine EVT.p1 (aB false) ?_
   refine EVT.p1 (aB false) ?_
   refine EVT.s1 ?_
   refine EVT.s1 ?_
   refine EVT.s1 ?_
   refine EVT.p1 (aB false) ?_
   refine EVT.p1 (aB false) ?_
   refine EVT.s1 ?_
   refine EVT.s1 ?_
   refine EVT.s1 ?_
   refine EVT.p1 (aB false) ?_
   refine EVT.p1 (aB false) ?_
   refine EVT.s1 ?_
   refine EVT.s1 ?_
   refine EVT.s1 ?_
   refine EVT.p1 (aB false) ?_
   refine EVT.p1 (aB false) ?_
   refine EVT.s1 ?_
   refine EVT.s1 ?_
   refine EVT.s1 ?_
   refine EVT.p1 (aB false) ?_
   refine EVT.p1 (aB false) ?_
   refine EVT.done ⟨by kernel_rfl, ?_⟩
   refine CQ.ret ?_
   obtain rfl := Option.some.inj hr
   exact FinQ.r1 [aB false]
 ·replace hr := cd_f hb11 hr
  refine CQ.regionT fine callOf_nil ?_
  refine EVT.p1 (aI64 v5.2) ?_
  refine EVT.pure (v := aB false) (by kernel_rfl) (Eq.trans (b := some (.pure (aB ((v5.2 : Int) == 0)))) (by kernel_rfl) (by rw [hb11])) (by kernel_rfl) ?_
  refine EVT.p1 (aB false) ?_
  refine EVT.s1 ?_
  refine EVT.s1 ?_
  refine EVT.p1 (aB false) ?_
  refine EVT.p1 (aB false) ?_
  refine EVT.s1 ?_
  refine EVT.s1 ?_
  refine EVT.p1 (aB false) ?_
  refine EVT.p1 (aB false) ?_
  refine EVT.s1 ?_
  refine EVT.s1 ?_
  refine EVT.s1 ?_
  refine EVT.p1 (aB false) ?_
  refine EVT.p1 (aB false) ?_
  refine EVT.s1 ?_
  refine EVT.s1 ?_
  refine EVT.s1 ?_
  refine EVT.p1 (aB false) ?_
  refine EVT.p1 (aB false) ?_
  refine EVT.s1 ?_
  refine EVT.s1 ?_
  refine EVT.s1 ?_
  refine EVT.p1 (aB false) ?_
  refine EVT.p1 (aB false) ?_
  refine EVT.s1 ?_
  refine EVT.s1 ?_
  refine EVT.s1 ?_
  refine EVT.p1 (aB false) ?_
  refine EVT.p1 (aB false) ?_
  refine EVT.done ⟨by kernel_rfl, ?_⟩
  refine CQ.ret ?_
  obtain rfl := Option.some.inj hr
  exact FinQ.r1 [aB false]

theorem fiduciallaw59_few_ok (n : Nat) (l : List api_Banded) (r : Bool) (hr : fiduciallaw59_few n l = some r) : FnOk Try.prog 7 [slT api_Banded.c l] (.at (.bool r)) := by
 unfold fiduciallaw59_few at hr
 refine FnOk.body fine Try.func7 (c := (Try.f7.body).getD .skip) rfl (s := mkS 23 0 [(0, slT api_Banded.c l)]) (by kernel_rfl) (rs := [.tmp 2]) rfl ?_
 unfold Try.f7
 simp only [Option.getD_some]
 refine CQ.seq ?_
 refine CQ.r0 fine ?_
 refine EVO.p1 (aB false) ?_
 refine EVO.done ?_
 refine CQ.n1 [0] (mkS 23 0 [(0, slT api_Banded.c l)]) [] ?_
 refine CQ.seq ?_
 refine CQ.seq ?_
 refine CQ.r0 fine ?_
 refine EVO.p1 (slT api_Banded.c l) ?_
 refine EVO.p1 (aI64 (l.length : Int)) ?_
 refine EVO.p1 (aI64 0) ?_
 refine EVO.done ?_
 refine CQ.n1 [5, 6, 7] (mkS 23 0 [(5, slT api_Banded.c l), (6, aI64 (l.length : Int)), (7, aI64 0)]) [] ?_
 refine CQ.block ?_
 replace hr := bd hr; obtain ⟨o11, hL12, hr⟩ := hr
 refine CQ.loopO (σ := fun z0 => match z0 with | x_1 => ⟨mkS 23 0 [(5, slT api_Banded.c l), (6, aI64 (l.length : Int)), (7, aI64 x_1)], []⟩) (Q := fun x st' => match (generalizing := false) o11 with | .inl _ => x = .exit 0 ∧ Wk st' ⟨mkS 23 0 [], []⟩ | .inr (r0) => x = .ret ∧ FinQ Try.prog [.tmp 2] (aB r0) .ret st') hL12 ((Wk.gc [5, 6, 7] [] rfl trivial).to (by kernel_rfl)) ?_ ?_
 ·clear hr
  rintro m x_1 hr
  show CQ _ _ _ _ ⟨_, _⟩
  refine CQ.seq ?_
  refine CQ.r0 fine ?_
  refine EVO.p1 (aB (decide (x_1 < (l.length : Int)))) ?_
  refine EVO.done ?_
  refine CQ.seq ?_
  refine CQ.cond (t := decide (x_1 < (l.length : Int))) (by kernel_rfl) (fun hb7 => ?_) (fun hb7 => ?_)
  ·replace hr := cd_t hb7 hr
   refine CQ.skip ?_
   refine CQ.seq ?_
   refine CQ.block ?_
   refine CQ.seq ?_
   replace hr := gd hr; obtain ⟨hg8, hr⟩ := hr
   refine CQ.r0 fine ?_
   refine EVO.p0 (v := .pp (l.flatMap api_Banded.c) (x_1.toNat * 7)) (Eq.trans (b := ORes.ofP (guardV (inR x_1 l.length) (.pp (l.flatMap api_Banded.c) (x_1.toNat * 7)))) (by kernel_rfl) (ofP_guard hg8)) ?_
   refine EVO.p0 (v := .agg [aI64 (gt l x_1).Grid.X0, aI64 (gt l x_1).Grid.Y0, aI64 (gt l x_1).Grid.Step, aI64 (gt l x_1).Grid.Width, aI64 (gt l x_1).Grid.Height, sI64 (gt l x_1).Grid.Z, sI64 (gt l x_1).Err]) (Eq.trans (b := ORes.ofP (guardV (decide (7 ≤ ((l.flatMap api_Banded.c).drop (x_1.toNat * 7)).length)) (.agg (((l.flatMap api_Banded.c).drop (x_1.toNat * 7)).take 7)))) (by kernel_rfl) (flat_load api_Banded.len (inR_lt hg8) (by decide) (by omega : x_1.toNat * 7 = x_1.toNat * 7 + 0) (by kernel_rfl))) ?_
   refine EVO.e1 (.hp 0 0) [(0, .own [aI64 0, aI64 0, aI64 0, aI64 0, aI64 0, .at (.slice none 0 0), .at (.slice none 0 0)])] ?_
   refine EVO.e1 (.unk) [(0, .own [aI64 (gt l x_1).Grid.X0, aI64 (gt l x_1).Grid.Y0, aI64 (gt l x_1).Grid.Step, aI64 (gt l x_1).Grid.Width, aI64 (gt l x_1).Grid.Height, sI64 (gt l x_1).Grid.Z, sI64 (gt l x_1).Err])] ?_
   refine EVO.done ?_
   refine CQ.n1 [4, 5, 6, 7] (mkS 23 0 [(4, .hp 0 0), (5, slT api_Banded.c l), (6, aI64 (l.length : Int)), (7, aI64 x_1)]) [.own [aI64 (gt l x_1).Grid.X0, aI64 (gt l x_1).Grid.Y0, aI64 (gt l x_1).Grid.Step, aI64 (gt l x_1).Grid.Width, aI64 (gt l x_1).Grid.Height, sI64 (gt l x_1).Grid.Z, sI64 (gt l x_1).Err]] ?_
   refine CQ.seq ?_
   rcases Bool.eq_false_or_eq_true (decide (((gt l x_1).Grid.Z.length : Int) > 64)) with hb9 | hb9
   ·replace hr := cd_t hb9 hr
    refine CQ.r0 fine ?_
    refine EVO.p1 (.hp 0 0) ?_
    refine EVO.p1 (.hp 0 5) ?_
    refine EVO.p1 (sI64 (gt l x_1).Grid.Z) ?_
    refine EVO.p1 (aI64 ((gt l x_1).Grid.Z.length : Int)) ?_
    refine EVO.p0 (v := aB true) (Eq.trans (b := some (.pure (aB (decide (((gt l x_1).Grid.Z.length : Int) > 64))))) (by kernel_rfl) (by rw [hb9])) ?_
    refine EVO.p1 (aB true) ?_
    refine EVO.s1 ?_
    refine EVO.s1 ?_
    refine EVO.s1 ?_
    refine EVO.s1 ?_
    refine EVO.p1 (aB true) ?_
    refine EVO.done ?_
    refine CQ.n1 [5, 6, 7, 21] (mkS 23 0 [(5, slT api_Banded.c l), (6, aI64 (l.length : Int)), (7, aI64 x_1), (21, aB true)]) [.own [aI64 (gt l x_1).Grid.X0, aI64 (gt l x_1).Grid.Y0, aI64 (gt l x_1).Grid.Step, aI64 (gt l x_1).Grid.Width, aI64 (gt l x_1).Grid.Height, sI64 (gt l x_1).Grid.Z, sI64 (gt l x_1).Err]] ?_
    refine CQ.cT (by kernel_rfl) ?_
    refine CQ.seq ?_
    refine CQ.r0 fine ?_
    refine EVO.p1 (aB false) ?_
    refine EVO.done ?_
    refine CQ.ret ?_
    obtain rfl := Option.some.inj hr
    exact ⟨rfl, FinQ.ret (vs := [aB false]) (by kernel_rfl) (Sn.pure rfl)⟩
   ·replace hr := cd_f hb9 hr
    refine CQ.r0 fine ?_
    refine EVO.p1 (.hp 0 0) ?_
    refine EVO.p1 (.hp 0 5) ?_
    refine EVO.p1 (sI64 (gt l x_1).Grid.Z) ?_
    refine EVO.p1 (aI64 ((gt l x_1).Grid.Z.length : Int)) ?_
    refine EVO.p0 (v := aB false) (Eq.trans (b := some (.pure (aB (decide (((gt l x_1).Grid.Z.length : Int) > 64))))) (by kernel_rfl) (by rw [hb9])) ?_
    refine EVO.p1 (aB false) ?_
    refine EVO.q1 (.hp 0 6) ?_
    refine EVO.q1 (sI64 (gt l x_1).Err) ?_
    refine EVO.q1 (aI64 ((gt l x_1).Err.length : Int)) ?_
    refine EVO.q1 (aB (decide (((gt l x_1).Err.length : Int) > 70))) ?_
    refine EVO.p1 (aB (decide (((gt l x_1).Err.length : Int) > 70))) ?_
    refine EVO.done ?_
    refine CQ.n1 [5, 6, 7, 21] (mkS 23 0 [(5, slT api_Banded.c l), (6, aI64 (l.length : Int)), (7, aI64 x_1), (21, aB (decide (((gt l x_1).Err.length : Int) > 70)))]) [.own [aI64 (gt l x_1).Grid.X0, aI64 (gt l x_1).Grid.Y0, aI64 (gt l x_1).Grid.Step, aI64 (gt l x_1).Grid.Width, aI64 (gt l x_1).Grid.Height, sI64 (gt l x_1).Grid.Z, sI64 (gt l x_1).Err]] ?_
    refine CQ.cond (t := decide (((gt l x_1).Err.length : Int) > 70)) (by kernel_rfl) (fun hb10 => ?_) (fun hb10 => ?_)
    ·replace hr := cd_t hb10 hr
     refine CQ.seq ?_
     refine CQ.r0 fine ?_
     refine EVO.p1 (aB false) ?_
     refine EVO.done ?_
     refine CQ.ret ?_
     obtain rfl := Option.some.inj hr
     exact ⟨rfl, FinQ.ret (vs := [aB false]) (by kernel_rfl) (Sn.pure rfl)⟩
    ·replace hr := cd_f hb10 hr
     refine CQ.skip ?_
     refine CQ.pop ?_
     refine CQ.r0 fine ?_
     refine EVO.p1 (aI64 (wrapF .i64 (x_1 + 1))) ?_
     refine EVO.p1 (aI64 (wrapF .i64 (x_1 + 1))) ?_
     refine EVO.done ?_
     exact loopF_back (wrapF .i64 (x_1 + 1)) hr ((Wk.gc [5, 6, 7] [] rfl trivial).to (by kernel_rfl))
  ·replace hr := cd_f hb7 hr
   refine CQ.leave rfl ?_
   obtain rfl := Option.some.inj hr
   exact ⟨rfl, ((Wk.gc [] [] rfl trivial).to (by kernel_rfl))⟩
 ·rcases o11 with ⟨⟩ | r0
  ·rintro x st' hq13
   clear hL12
   obtain ⟨rfl, hq13⟩ := hq13
   refine CQ_exit _ rfl ?_
   refine CQ.wk hq13 ?_
   refine CQ.seq ?_
   refine CQ.r0 fine ?_
   refine EVO.p1 (aB true) ?_
   refine EVO.done ?_
   refine CQ.ret ?_
   obtain rfl := Option.some.inj hr
   exact FinQ.r1 [aB true]
  ·rintro x st' hq13
   clear hL12
   obtain ⟨rfl, hq13⟩ := hq13
   obtain rfl := Option.some.inj hr
   exact CQ_ret _ hq13

theorem fiduciallaw51_out_inj {n' : Int} {n'_ : Int} (h : ([.at (.int .i64 n')] : List AV) = [.at (.int .i64 n'_)]) : n' = n'_ := by
 simp only [List.cons.injEq, AV.agg.injEq, AV.at.injEq, Value.int.injEq, Value.bool.injEq, AV.fn.injEq, AV.pp.injEq, true_and, and_true] at h
 simp_all
theorem fiduciallaw51_out_ok (n : Nat) (n' : Int) (r : Bool) (hr : fiduciallaw51_out n n' = some r) : FnOk Try.prog 43 [.at (.int .i64 n')] (.at (.bool r)) := by
 unfold fiduciallaw51_out at hr
 refine FnOk.body fine Try.func43 (c := (Try.f43.body).getD .skip) rfl (s := mkS 9 0 [(0, aI64 n')]) (by kernel_rfl) (rs := [.tmp 2]) rfl ?_
 unfold Try.f43
 simp only [Option.getD_some]
 refine CQ.seq ?_
 refine CQ.r0 fine ?_
 refine EVO.p1 (aB false) ?_
 refine EVO.done ?_
 refine CQ.n1 [0] (mkS 9 0 [(0, aI64 n')]) [] ?_
 refine CQ.seq ?_
 rcases Bool.eq_false_or_eq_true (decide (n' < (-1048576))) with hb1 | hb1
 ·replace hr := cd_t hb1 hr
  refine CQ.r0 fine ?_
  refine EVO.p1 (aI64 n') ?_
  refine EVO.p0 (v := aB true) (Eq.trans (b := some (.pure (aB (decide (n' < (-1048576)))))) (by kernel_rfl) (by rw [hb1])) ?_
  refine EVO.p1 (aB true) ?_
  refine EVO.s1 ?_
  refine EVO.s1 ?_
  refine EVO.p1 (aB true) ?_
  refine EVO.p1 (aB true) ?_
  refine EVO.done ?_
  refine CQ.ret ?_
  obtain rfl := Option.some.inj hr
  exact FinQ.r1 [aB true]
 ·replace hr := cd_f hb1 hr
  refine CQ.r0 fine ?_
  refine EVO.p1 (aI64 n') ?_
  refine EVO.p0 (v := aB false) (Eq.trans (b := some (.pure (aB (decide (n' < (-1048576)))))) (by kernel_rfl) (by rw [hb1])) ?_
  refine EVO.p1 (aB false) ?_
  refine EVO.q1 (aI64 n') ?_
  refine EVO.q1 (aB (decide (n' > 1048576))) ?_
  refine EVO.p1 (aB (decide (n' > 1048576))) ?_
  refine EVO.p1 (aB (decide (n' > 1048576))) ?_
  refine EVO.done ?_
  refine CQ.ret ?_
  obtain rfl := Option.some.inj hr
  exact FinQ.r1 [aB (decide (n' > 1048576))]

theorem fiduciallaw51_check_ok (n : Nat) (g : api_Grid) (r : Int) (hr : fiduciallaw51_check n g = some r) : FnOk Try.prog 35 [.agg [.at (.int .i64 g.X0), .at (.int .i64 g.Y0), .at (.int .i64 g.Step), .at (.int .i64 g.Width), .at (.int .i64 g.Height), slT (iC .i64) g.Z]] (.at (.int .i64 r)) := by
 unfold fiduciallaw51_check at hr
 refine FnOk.body fine Try.func35 (c := (Try.f35.body).getD .skip) rfl (s := mkS 72 0 [(0, .agg [aI64 g.X0, aI64 g.Y0, aI64 g.Step, aI64 g.Width, aI64 g.Height, sI64 g.Z])]) (by kernel_rfl) (rs := [.tmp 2]) rfl ?_
 unfold Try.f35
 simp only [Option.getD_some]
 refine CQ.seq ?_
 refine CQ.r0 fine ?_
 refine EVO.e1 (.hp 0 0) [(0, .own [aI64 g.X0, aI64 g.Y0, aI64 g.Step, aI64 g.Width, aI64 g.Height, sI64 g.Z])] ?_
 refine EVO.p1 (aI64 0) ?_
 refine EVO.done ?_
 refine CQ.n1 [1] (mkS 72 0 [(1, .hp 0 0)]) [.own [aI64 g.X0, aI64 g.Y0, aI64 g.Step, aI64 g.Width, aI64 g.Height, sI64 g.Z]] ?_
 refine CQ.seq ?_
 refine CQ.seq ?_
 rcases Bool.eq_false_or_eq_true (decide (g.Width < 2)) with hb1 | hb1
 ·replace hr := cd_t hb1 hr
  refine CQ.r0 fine ?_
  refine EVO.p1 (.hp 0 3) ?_
  refine EVO.p1 (aI64 g.Width) ?_
  refine EVO.p0 (v := aB true) (Eq.trans (b := some (.pure (aB (decide (g.Width < 2))))) (by kernel_rfl) (by rw [hb1])) ?_
  refine EVO.p1 (aB true) ?_
  refine EVO.s1 ?_
  refine EVO.s1 ?_
  refine EVO.s1 ?_
  refine EVO.p1 (aB true) ?_
  refine EVO.p1 (aB true) ?_
  refine EVO.s1 ?_
  refine EVO.s1 ?_
  refine EVO.s1 ?_
  refine EVO.p1 (aB true) ?_
  refine EVO.p1 (aB true) ?_
  refine EVO.s1 ?_
  refine EVO.s1 ?_
  refine EVO.s1 ?_
  refine EVO.p1 (aB true) ?_
  refine EVO.p1 (aB true) ?_
  refine EVO.s1 ?_
  refine EVO.s1 ?_
  refine EVO.s1 ?_
  refine EVO.p1 (aB true) ?_
  refine EVO.p1 (aB true) ?_
  refine EVO.s1 ?_
  refine EVO.s1 ?_
  refine EVO.s1 ?_
  refine EVO.p1 (aB true) ?_
  refine EVO.p1 (aB true) ?_
  refine EVO.s1 ?_
  refine EVO.s1 ?_
  refine EVO.s1 ?_
  refine EVO.s1 ?_
  refine EVO.p1 (aB true) ?_
  refine EVO.p1 (aB true) ?_
  refine EVO.s1 ?_
  refine EVO.s1 ?_
  refine EVO.s1 ?_
  refine EVO.p1 (aB true) ?_
  refine EVO.p1 (aB true) ?_
  refine EVO.s1 ?_
  refine EVO.s1 ?_
  refine EVO.s1 ?_
  refine EVO.p1 (aB true) ?_
  refine EVO.done ?_
  refine CQ.n1 [1, 48] (mkS 72 0 [(1, .hp 0 0), (48, aB true)]) [.own [aI64 g.X0, aI64 g.Y0, aI64 g.Step, aI64 g.Width, aI64 g.Height, sI64 g.Z]] ?_
  refine CQ.cT (by kernel_rfl) ?_
  refine CQ.seq ?_
  refine CQ.r0 fine ?_
  refine EVO.p1 (aI64 2) ?_
  refine EVO.done ?_
  refine CQ.ret ?_
  obtain rfl := Option.some.inj hr
  exact FinQ.r1 [aI64 2]
 ·replace hr := cd_f hb1 hr
  rcases Bool.eq_false_or_eq_true (decide (g.Width > 64)) with hb2 | hb2
  ·replace hr := cd_t hb2 hr
   refine CQ.r0 fine ?_
   refine EVO.p1 (.hp 0 3) ?_
   refine EVO.p1 (aI64 g.Width) ?_
   refine EVO.p0 (v := aB false) (Eq.trans (b := some (.pure (aB (decide (g.Width < 2))))) (by kernel_rfl) (by rw [hb1])) ?_
   refine EVO.p1 (aB false) ?_
   refine EVO.q1 (.hp 0 3) ?_
   refine EVO.q1 (aI64 g.Width) ?_
   refine EVO.pure (v := aB true) (by kernel_rfl) (Eq.trans (b := some (.pure (aB (decide (g.Width > 64))))) (by kernel_rfl) (by rw [hb2])) ?_
   refine EVO.p1 (aB true) ?_
   refine EVO.p1 (aB true) ?_
   refine EVO.s1 ?_
   refine EVO.s1 ?_
   refine EVO.s1 ?_
   refine EVO.p1 (aB true) ?_
   refine EVO.p1 (aB true) ?_
   refine EVO.s1 ?_
   refine EVO.s1 ?_
   refine EVO.s1 ?_
   refine EVO.p1 (aB true) ?_
   refine EVO.p1 (aB true) ?_
   refine EVO.s1 ?_
   refine EVO.s1 ?_
   refine EVO.s1 ?_
   refine EVO.p1 (aB true) ?_
   refine EVO.p1 (aB true) ?_
   refine EVO.s1 ?_
   refine EVO.s1 ?_
   refine EVO.s1 ?_
   refine EVO.p1 (aB true) ?_
   refine EVO.p1 (aB true) ?_
   refine EVO.s1 ?_
   refine EVO.s1 ?_
   refine EVO.s1 ?_
   refine EVO.s1 ?_
   refine EVO.p1 (aB true) ?_
   refine EVO.p1 (aB true) ?_
   refine EVO.s1 ?_
   refine EVO.s1 ?_
   refine EVO.s1 ?_
   refine EVO.p1 (aB true) ?_
   refine EVO.p1 (aB true) ?_
   refine EVO.s1 ?_
   refine EVO.s1 ?_
   refine EVO.s1 ?_
   refine EVO.p1 (aB true) ?_
   refine EVO.done ?_
   refine CQ.n1 [1, 48] (mkS 72 0 [(1, .hp 0 0), (48, aB true)]) [.own [aI64 g.X0, aI64 g.Y0, aI64 g.Step, aI64 g.Width, aI64 g.Height, sI64 g.Z]] ?_
   refine CQ.cT (by kernel_rfl) ?_
   refine CQ.seq ?_
   refine CQ.r0 fine ?_
   refine EVO.p1 (aI64 2) ?_
   refine EVO.done ?_
   refine CQ.ret ?_
   obtain rfl := Option.some.inj hr
   exact FinQ.r1 [aI64 2]
  ·replace hr := cd_f hb2 hr
   rcases Bool.eq_false_or_eq_true (decide (g.Height < 2)) with hb3 | hb3
   ·replace hr := cd_t hb3 hr
    refine CQ.r0 fine ?_
    refine EVO.p1 (.hp 0 3) ?_
    refine EVO.p1 (aI64 g.Width) ?_
    refine EVO.p0 (v := aB false) (Eq.trans (b := some (.pure (aB (decide (g.Width < 2))))) (by kernel_rfl) (by rw [hb1])) ?_
    refine EVO.p1 (aB false) ?_
    refine EVO.q1 (.hp 0 3) ?_
    refine EVO.q1 (aI64 g.Width) ?_
    refine EVO.pure (v := aB false) (by kernel_rfl) (Eq.trans (b := some (.pure (aB (decide (g.Width > 64))))) (by kernel_rfl) (by rw [hb2])) ?_
    refine EVO.p1 (aB false) ?_
    refine EVO.p1 (aB false) ?_
    refine EVO.q1 (.hp 0 4) ?_
    refine EVO.q1 (aI64 g.Height) ?_
    refine EVO.pure (v := aB true) (by kernel_rfl) (Eq.trans (b := some (.pure (aB (decide (g.Height < 2))))) (by kernel_rfl) (by rw [hb3])) ?_
    refine EVO.p1 (aB true) ?_
    refine EVO.p1 (aB true) ?_
    refine EVO.s1 ?_
    refine EVO.s1 ?_
    refine EVO.s1 ?_
    refine EVO.p1 (aB true) ?_
    refine EVO.p1 (aB true) ?_
    refine EVO.s1 ?_
    refine EVO.s1 ?_
    refine EVO.s1 ?_
    refine EVO.p1 (aB true) ?_
    refine EVO.p1 (aB true) ?_
    refine EVO.s1 ?_
    refine EVO.s1 ?_
    refine EVO.s1 ?_
    refine EVO.p1 (aB true) ?_
    refine EVO.p1 (aB true) ?_
    refine EVO.s1 ?_
    refine EVO.s1 ?_
    refine EVO.s1 ?_
    refine EVO.s1 ?_
    refine EVO.p1 (aB true) ?_
    refine EVO.p1 (aB true) ?_
    refine EVO.s1 ?_
    refine EVO.s1 ?_
    refine EVO.s1 ?_
    refine EVO.p1 (aB true) ?_
    refine EVO.p1 (aB true) ?_
    refine EVO.s1 ?_
    refine EVO.s1 ?_
    refine EVO.s1 ?_
    refine EVO.p1 (aB true) ?_
    refine EVO.done ?_
    refine CQ.n1 [1, 48] (mkS 72 0 [(1, .hp 0 0), (48, aB true)]) [.own [aI64 g.X0, aI64 g.Y0, aI64 g.Step, aI64 g.Width, aI64 g.Height, sI64 g.Z]] ?_
    refine CQ.cT (by kernel_rfl) ?_
    refine CQ.seq ?_
    refine CQ.r0 fine ?_
    refine EVO.p1 (aI64 2) ?_
    refine EVO.done ?_
    refine CQ.ret ?_
    obtain rfl := Option.some.inj hr
    exact FinQ.r1 [aI64 2]
   ·replace hr := cd_f hb3 hr
    rcases Bool.eq_false_or_eq_true (decide (g.Height > 64)) with hb4 | hb4
    ·replace hr := cd_t hb4 hr
     refine CQ.r0 fine ?_
     refine EVO.p1 (.hp 0 3) ?_
     refine EVO.p1 (aI64 g.Width) ?_
     refine EVO.p0 (v := aB false) (Eq.trans (b := some (.pure (aB (decide (g.Width < 2))))) (by kernel_rfl) (by rw [hb1])) ?_
     refine EVO.p1 (aB false) ?_
     refine EVO.q1 (.hp 0 3) ?_
     refine EVO.q1 (aI64 g.Width) ?_
     refine EVO.pure (v := aB false) (by kernel_rfl) (Eq.trans (b := some (.pure (aB (decide (g.Width > 64))))) (by kernel_rfl) (by rw [hb2])) ?_
     refine EVO.p1 (aB false) ?_
     refine EVO.p1 (aB false) ?_
     refine EVO.q1 (.hp 0 4) ?_
     refine EVO.q1 (aI64 g.Height) ?_
     refine EVO.pure (v := aB false) (by kernel_rfl) (Eq.trans (b := some (.pure (aB (decide (g.Height < 2))))) (by kernel_rfl) (by rw [hb3])) ?_
     refine EVO.p1 (aB false) ?_
     refine EVO.p1 (aB false) ?_
     refine EVO.q1 (.hp 0 4) ?_
     refine EVO.q1 (aI64 g.Height) ?_
     refine EVO.pure (v := aB true) (by kernel_rfl) (Eq.trans (b := some (.pure (aB (decide (g.Height > 64))))) (by kernel_rfl) (by rw [hb4])) ?_
     refine EVO.p1 (aB true) ?_
     refine EVO.p1 (aB true) ?_
     refine EVO.s1 ?_
     refine EVO.s1 ?_
     refine EVO.s1 ?_
     refine EVO.p1 (aB true) ?_
     refine EVO.p1 (aB true) ?_
     refine EVO.s1 ?_
     refine EVO.s1 ?_
     refine EVO.s1 ?_
     refine EVO.p1 (aB true) ?_
     refine EVO.p1 (aB true) ?_
     refine EVO.s1 ?_
     refine EVO.s1 ?_
     refine EVO.s1 ?_
     refine EVO.s1 ?_
     refine EVO.p1 (aB true) ?_
     refine EVO.p1 (aB true) ?_
     refine EVO.s1 ?_
     refine EVO.s1 ?_
     refine EVO.s1 ?_
     refine EVO.p1 (aB true) ?_
     refine EVO.p1 (aB true) ?_
     refine EVO.s1 ?_
     refine EVO.s1 ?_
     refine EVO.s1 ?_
     refine EVO.p1 (aB true) ?_
     refine EVO.done ?_
     refine CQ.n1 [1, 48] (mkS 72 0 [(1, .hp 0 0), (48, aB true)]) [.own [aI64 g.X0, aI64 g.Y0, aI64 g.Step, aI64 g.Width, aI64 g.Height, sI64 g.Z]] ?_
     refine CQ.cT (by kernel_rfl) ?_
     refine CQ.seq ?_
     refine CQ.r0 fine ?_
     refine EVO.p1 (aI64 2) ?_
     refine EVO.done ?_
     refine CQ.ret ?_
     obtain rfl := Option.some.inj hr
     exact FinQ.r1 [aI64 2]
    ·replace hr := cd_f hb4 hr
     rcases Bool.eq_false_or_eq_true (decide (g.Step < 2)) with hb5 | hb5
     ·replace hr := cd_t hb5 hr
      refine CQ.r0 fine ?_
      refine EVO.p1 (.hp 0 3) ?_
      refine EVO.p1 (aI64 g.Width) ?_
      refine EVO.p0 (v := aB false) (Eq.trans (b := some (.pure (aB (decide (g.Width < 2))))) (by kernel_rfl) (by rw [hb1])) ?_
      refine EVO.p1 (aB false) ?_
      refine EVO.q1 (.hp 0 3) ?_
      refine EVO.q1 (aI64 g.Width) ?_
      refine EVO.pure (v := aB false) (by kernel_rfl) (Eq.trans (b := some (.pure (aB (decide (g.Width > 64))))) (by kernel_rfl) (by rw [hb2])) ?_
      refine EVO.p1 (aB false) ?_
      refine EVO.p1 (aB false) ?_
      refine EVO.q1 (.hp 0 4) ?_
      refine EVO.q1 (aI64 g.Height) ?_
      refine EVO.pure (v := aB false) (by kernel_rfl) (Eq.trans (b := some (.pure (aB (decide (g.Height < 2))))) (by kernel_rfl) (by rw [hb3])) ?_
      refine EVO.p1 (aB false) ?_
      refine EVO.p1 (aB false) ?_
      refine EVO.q1 (.hp 0 4) ?_
      refine EVO.q1 (aI64 g.Height) ?_
      refine EVO.pure (v := aB false) (by kernel_rfl) (Eq.trans (b := some (.pure (aB (decide (g.Height > 64))))) (by kernel_rfl) (by rw [hb4])) ?_
      refine EVO.p1 (aB false) ?_
      refine EVO.p1 (aB false) ?_
      refine EVO.q1 (.hp 0 2) ?_
      refine EVO.q1 (aI64 g.Step) ?_
      refine EVO.pure (v := aB true) (by kernel_rfl) (Eq.trans (b := some (.pure (aB (decide (g.Step < 2))))) (by kernel_rfl) (by rw [hb5])) ?_
      refine EVO.p1 (aB true) ?_
      refine EVO.p1 (aB true) ?_
      refine EVO.s1 ?_
      refine EVO.s1 ?_
      refine EVO.s1 ?_
      refine EVO.p1 (aB true) ?_
      refine EVO.p1 (aB true) ?_
      refine EVO.s1 ?_
      refine EVO.s1 ?_
      refine EVO.s1 ?_
      refine EVO.s1 ?_
      refine EVO.p1 (aB true) ?_
      refine EVO.p1 (aB true) ?_
      refine EVO.s1 ?_
      refine EVO.s1 ?_
      refine EVO.s1 ?_
      refine EVO.p1 (aB true) ?_
      refine EVO.p1 (aB true) ?_
      refine EVO.s1 ?_
      refine EVO.s1 ?_
      refine EVO.s1 ?_
      refine EVO.p1 (aB true) ?_
      refine EVO.done ?_
      refine CQ.n1 [1, 48] (mkS 72 0 [(1, .hp 0 0), (48, aB true)]) [.own [aI64 g.X0, aI64 g.Y0, aI64 g.Step, aI64 g.Width, aI64 g.Height, sI64 g.Z]] ?_
      refine CQ.cT (by kernel_rfl) ?_
      refine CQ.seq ?_
      refine CQ.r0 fine ?_
      refine EVO.p1 (aI64 2) ?_
      refine EVO.done ?_
      refine CQ.ret ?_
      obtain rfl := Option.some.inj hr
      exact FinQ.r1 [aI64 2]
     ·replace hr := cd_f hb5 hr
      rcases Bool.eq_false_or_eq_true (decide (g.Step > 65536)) with hb6 | hb6
      ·replace hr := cd_t hb6 hr
       refine CQ.r0 fine ?_
       refine EVO.p1 (.hp 0 3) ?_
       refine EVO.p1 (aI64 g.Width) ?_
       refine EVO.p0 (v := aB false) (Eq.trans (b := some (.pure (aB (decide (g.Width < 2))))) (by kernel_rfl) (by rw [hb1])) ?_
       refine EVO.p1 (aB false) ?_
       refine EVO.q1 (.hp 0 3) ?_
       refine EVO.q1 (aI64 g.Width) ?_
       refine EVO.pure (v := aB false) (by kernel_rfl) (Eq.trans (b := some (.pure (aB (decide (g.Width > 64))))) (by kernel_rfl) (by rw [hb2])) ?_
       refine EVO.p1 (aB false) ?_
       refine EVO.p1 (aB false) ?_
       refine EVO.q1 (.hp 0 4) ?_
       refine EVO.q1 (aI64 g.Height) ?_
       refine EVO.pure (v := aB false) (by kernel_rfl) (Eq.trans (b := some (.pure (aB (decide (g.Height < 2))))) (by kernel_rfl) (by rw [hb3])) ?_
       refine EVO.p1 (aB false) ?_
       refine EVO.p1 (aB false) ?_
       refine EVO.q1 (.hp 0 4) ?_
       refine EVO.q1 (aI64 g.Height) ?_
       refine EVO.pure (v := aB false) (by kernel_rfl) (Eq.trans (b := some (.pure (aB (decide (g.Height > 64))))) (by kernel_rfl) (by rw [hb4])) ?_
       refine EVO.p1 (aB false) ?_
       refine EVO.p1 (aB false) ?_
       refine EVO.q1 (.hp 0 2) ?_
       refine EVO.q1 (aI64 g.Step) ?_
       refine EVO.pure (v := aB false) (by kernel_rfl) (Eq.trans (b := some (.pure (aB (decide (g.Step < 2))))) (by kernel_rfl) (by rw [hb5])) ?_
       refine EVO.p1 (aB false) ?_
       refine EVO.p1 (aB false) ?_
       refine EVO.q1 (.hp 0 2) ?_
       refine EVO.q1 (aI64 g.Step) ?_
       refine EVO.pure (v := aB true) (by kernel_rfl) (Eq.trans (b := some (.pure (aB (decide (g.Step > 65536))))) (by kernel_rfl) (by rw [hb6])) ?_
       refine EVO.p1 (aB true) ?_
       refine EVO.p1 (aB true) ?_
       refine EVO.s1 ?_
       refine EVO.s1 ?_
       refine EVO.s1 ?_
       refine EVO.s1 ?_
       refine EVO.p1 (aB true) ?_
       refine EVO.p1 (aB true) ?_
       refine EVO.s1 ?_
       refine EVO.s1 ?_
       refine EVO.s1 ?_
       refine EVO.p1 (aB true) ?_
       refine EVO.p1 (aB true) ?_
       refine EVO.s1 ?_
       refine EVO.s1 ?_
       refine EVO.s1 ?_
       refine EVO.p1 (aB true) ?_
       refine EVO.done ?_
       refine CQ.n1 [1, 48] (mkS 72 0 [(1, .hp 0 0), (48, aB true)]) [.own [aI64 g.X0, aI64 g.Y0, aI64 g.Step, aI64 g.Width, aI64 g.Height, sI64 g.Z]] ?_
       refine CQ.cT (by kernel_rfl) ?_
       refine CQ.seq ?_
       refine CQ.r0 fine ?_
       refine EVO.p1 (aI64 2) ?_
       refine EVO.done ?_
       refine CQ.ret ?_
       obtain rfl := Option.some.inj hr
       exact FinQ.r1 [aI64 2]
      ·replace hr := cd_f hb6 hr
       rcases Bool.eq_false_or_eq_true (((g.Step.tmod 2) : Int) != 0) with hb7 | hb7
       ·replace hr := cd_t hb7 hr
        refine CQ.r0 fine ?_
        refine EVO.p1 (.hp 0 3) ?_
        refine EVO.p1 (aI64 g.Width) ?_
        refine EVO.p0 (v := aB false) (Eq.trans (b := some (.pure (aB (decide (g.Width < 2))))) (by kernel_rfl) (by rw [hb1])) ?_
        refine EVO.p1 (aB false) ?_
        refine EVO.q1 (.hp 0 3) ?_
        refine EVO.q1 (aI64 g.Width) ?_
        refine EVO.pure (v := aB false) (by kernel_rfl) (Eq.trans (b := some (.pure (aB (decide (g.Width > 64))))) (by kernel_rfl) (by rw [hb2])) ?_
        refine EVO.p1 (aB false) ?_
        refine EVO.p1 (aB false) ?_
        refine EVO.q1 (.hp 0 4) ?_
        refine EVO.q1 (aI64 g.Height) ?_
        refine EVO.pure (v := aB false) (by kernel_rfl) (Eq.trans (b := some (.pure (aB (decide (g.Height < 2))))) (by kernel_rfl) (by rw [hb3])) ?_
        refine EVO.p1 (aB false) ?_
        refine EVO.p1 (aB false) ?_
        refine EVO.q1 (.hp 0 4) ?_
        refine EVO.q1 (aI64 g.Height) ?_
        refine EVO.pure (v := aB false) (by kernel_rfl) (Eq.trans (b := some (.pure (aB (decide (g.Height > 64))))) (by kernel_rfl) (by rw [hb4])) ?_
        refine EVO.p1 (aB false) ?_
        refine EVO.p1 (aB false) ?_
        refine EVO.q1 (.hp 0 2) ?_
        refine EVO.q1 (aI64 g.Step) ?_
        refine EVO.pure (v := aB false) (by kernel_rfl) (Eq.trans (b := some (.pure (aB (decide (g.Step < 2))))) (by kernel_rfl) (by rw [hb5])) ?_
        refine EVO.p1 (aB false) ?_
        refine EVO.p1 (aB false) ?_
        refine EVO.q1 (.hp 0 2) ?_
        refine EVO.q1 (aI64 g.Step) ?_
        refine EVO.pure (v := aB false) (by kernel_rfl) (Eq.trans (b := some (.pure (aB (decide (g.Step > 65536))))) (by kernel_rfl) (by rw [hb6])) ?_
        refine EVO.p1 (aB false) ?_
        refine EVO.p1 (aB false) ?_
        refine EVO.q1 (.hp 0 2) ?_
        refine EVO.q1 (aI64 g.Step) ?_
        refine EVO.q1 (aI64 (g.Step.tmod 2)) ?_
        refine EVO.pure (v := aB true) (by kernel_rfl) (Eq.trans (b := some (.pure (aB (((g.Step.tmod 2) : Int) != 0)))) (by kernel_rfl) (by rw [hb7])) ?_
        refine EVO.p1 (aB true) ?_
        refine EVO.p1 (aB true) ?_
        refine EVO.s1 ?_
        refine EVO.s1 ?_
        refine EVO.s1 ?_
        refine EVO.p1 (aB true) ?_
        refine EVO.p1 (aB true) ?_
        refine EVO.s1 ?_
        refine EVO.s1 ?_
        refine EVO.s1 ?_
        refine EVO.p1 (aB true) ?_
        refine EVO.done ?_
        refine CQ.n1 [1, 48] (mkS 72 0 [(1, .hp 0 0), (48, aB true)]) [.own [aI64 g.X0, aI64 g.Y0, aI64 g.Step, aI64 g.Width, aI64 g.Height, sI64 g.Z]] ?_
        refine CQ.cT (by kernel_rfl) ?_
        refine CQ.seq ?_
        refine CQ.r0 fine ?_
        refine EVO.p1 (aI64 2) ?_
        refine EVO.done ?_
        refine CQ.ret ?_
        obtain rfl := Option.some.inj hr
        exact FinQ.r1 [aI64 2]
       ·replace hr := cd_f hb7 hr
        replace hr := bd hr; obtain ⟨v8, hc9, hr⟩ := hr
        rcases Bool.eq_false_or_eq_true v8 with hb10 | hb10
        ·subst hb10
         replace hr := cd_t rfl hr
         refine CQ.region fine (callOf_1 43 [aI64 g.X0] [.own [aI64 g.X0, aI64 g.Y0, aI64 g.Step, aI64 g.Width, aI64 g.Height, sI64 g.Z]] (.loc (aB true) [] [] 0) (callOk_val (l := []) (args' := [aI64 g.X0]) rfl (SnL.cons (Sn.pure rfl) SnL.nil) (fiduciallaw51_out_ok n g.X0 true hc9))) ?_
         refine EVO.p1 (.hp 0 3) ?_
         refine EVO.p1 (aI64 g.Width) ?_
         refine EVO.p0 (v := aB false) (Eq.trans (b := some (.pure (aB (decide (g.Width < 2))))) (by kernel_rfl) (by rw [hb1])) ?_
         refine EVO.p1 (aB false) ?_
         refine EVO.q1 (.hp 0 3) ?_
         refine EVO.q1 (aI64 g.Width) ?_
         refine EVO.pure (v := aB false) (by kernel_rfl) (Eq.trans (b := some (.pure (aB (decide (g.Width > 64))))) (by kernel_rfl) (by rw [hb2])) ?_
         refine EVO.p1 (aB false) ?_
         refine EVO.p1 (aB false) ?_
         refine EVO.q1 (.hp 0 4) ?_
         refine EVO.q1 (aI64 g.Height) ?_
         refine EVO.pure (v := aB false) (by kernel_rfl) (Eq.trans (b := some (.pure (aB (decide (g.Height < 2))))) (by kernel_rfl) (by rw [hb3])) ?_
         refine EVO.p1 (aB false) ?_
         refine EVO.p1 (aB false) ?_
         refine EVO.q1 (.hp 0 4) ?_
         refine EVO.q1 (aI64 g.Height) ?_
         refine EVO.pure (v := aB false) (by kernel_rfl) (Eq.trans (b := some (.pure (aB (decide (g.Height > 64))))) (by kernel_rfl) (by rw [hb4])) ?_
         refine EVO.p1 (aB false) ?_
         refine EVO.p1 (aB false) ?_
         refine EVO.q1 (.hp 0 2) ?_
         refine EVO.q1 (aI64 g.Step) ?_
         refine EVO.pure (v := aB false) (by kernel_rfl) (Eq.trans (b := some (.pure (aB (decide (g.Step < 2))))) (by kernel_rfl) (by rw [hb5])) ?_
         refine EVO.p1 (aB false) ?_
         refine EVO.p1 (aB false) ?_
         refine EVO.q1 (.hp 0 2) ?_
         refine EVO.q1 (aI64 g.Step) ?_
         refine EVO.pure (v := aB false) (by kernel_rfl) (Eq.trans (b := some (.pure (aB (decide (g.Step > 65536))))) (by kernel_rfl) (by rw [hb6])) ?_
         refine EVO.p1 (aB false) ?_
         refine EVO.p1 (aB false) ?_
         refine EVO.q1 (.hp 0 2) ?_
         refine EVO.q1 (aI64 g.Step) ?_
         refine EVO.q1 (aI64 (g.Step.tmod 2)) ?_
         refine EVO.pure (v := aB false) (by kernel_rfl) (Eq.trans (b := some (.pure (aB (((g.Step.tmod 2) : Int) != 0)))) (by kernel_rfl) (by rw [hb7])) ?_
         refine EVO.p1 (aB false) ?_
         refine EVO.p1 (aB false) ?_
         refine EVO.q1 (.hp 0 0) ?_
         refine EVO.q1 (aI64 g.X0) ?_
         refine EVO.cal (by kernel_rfl) (by kernel_rfl) (callOf_at (by kernel_rfl)) ?_
         refine EVO.p1 (aB true) ?_
         refine EVO.p1 (aB true) ?_
         refine EVO.s1 ?_
         refine EVO.s1 ?_
         refine EVO.s1 ?_
         refine EVO.p1 (aB true) ?_
         refine EVO.done ?_
         refine CQ.n1 [1, 48] (mkS 72 0 [(1, .hp 0 0), (48, aB true)]) [.own [aI64 g.X0, aI64 g.Y0, aI64 g.Step, aI64 g.Width, aI64 g.Height, sI64 g.Z]] ?_
         refine CQ.cT (by kernel_rfl) ?_
         refine CQ.seq ?_
         refine CQ.r0 fine ?_
         refine EVO.p1 (aI64 2) ?_
         refine EVO.done ?_
         refine CQ.ret ?_
         obtain rfl := Option.some.inj hr
         exact FinQ.r1 [aI64 2]
        ·subst hb10
         replace hr := cd_f rfl hr
         replace hr := bd hr; obtain ⟨v11, hc12, hr⟩ := hr
         refine CQ.region fine (callOf_ok [{ f := 43, args := [aI64 g.X0], H := [.own [aI64 g.X0, aI64 g.Y0, aI64 g.Step, aI64 g.Width, aI64 g.Height, sI64 g.Z]], r := .loc (aB false) [] [] 0 : CE }, { f := 43, args := [aI64 g.Y0], H := [.own [aI64 g.X0, aI64 g.Y0, aI64 g.Step, aI64 g.Width, aI64 g.Height, sI64 g.Z]], r := .loc (aB v11) [] [] 0 : CE }] (List.forall_mem_cons.2 ⟨(callOk_val (l := []) (args' := [aI64 g.X0]) rfl (SnL.cons (Sn.pure rfl) SnL.nil) (fiduciallaw51_out_ok n g.X0 false hc9)), (List.forall_mem_cons.2 ⟨(callOk_val (l := []) (args' := [aI64 g.Y0]) rfl (SnL.cons (Sn.pure rfl) SnL.nil) (fiduciallaw51_out_ok n g.Y0 v11 hc12)), ce0⟩)⟩)) ?_
         refine EVO.p1 (.hp 0 3) ?_
         refine EVO.p1 (aI64 g.Width) ?_
         refine EVO.p0 (v := aB false) (Eq.trans (b := some (.pure (aB (decide (g.Width < 2))))) (by kernel_rfl) (by rw [hb1])) ?_
         refine EVO.p1 (aB false) ?_
         refine EVO.q1 (.hp 0 3) ?_
         refine EVO.q1 (aI64 g.Width) ?_
         refine EVO.pure (v := aB false) (by kernel_rfl) (Eq.trans (b := some (.pure (aB (decide (g.Width > 64))))) (by kernel_rfl) (by rw [hb2])) ?_
         refine EVO.p1 (aB false) ?_
         refine EVO.p1 (aB false) ?_
         refine EVO.q1 (.hp 0 4) ?_
         refine EVO.q1 (aI64 g.Height) ?_
         refine EVO.pure (v := aB false) (by kernel_rfl) (Eq.trans (b := some (.pure (aB (decide (g.Height < 2))))) (by kernel_rfl) (by rw [hb3])) ?_
         refine EVO.p1 (aB false) ?_
         refine EVO.p1 (aB false) ?_
         refine EVO.q1 (.hp 0 4) ?_
         refine EVO.q1 (aI64 g.Height) ?_
         refine EVO.pure (v := aB false) (by kernel_rfl) (Eq.trans (b := some (.pure (aB (decide (g.Height > 64))))) (by kernel_rfl) (by rw [hb4])) ?_
         refine EVO.p1 (aB false) ?_
         refine EVO.p1 (aB false) ?_
         refine EVO.q1 (.hp 0 2) ?_
         refine EVO.q1 (aI64 g.Step) ?_
         refine EVO.pure (v := aB false) (by kernel_rfl) (Eq.trans (b := some (.pure (aB (decide (g.Step < 2))))) (by kernel_rfl) (by rw [hb5])) ?_
         refine EVO.p1 (aB false) ?_
         refine EVO.p1 (aB false) ?_
         refine EVO.q1 (.hp 0 2) ?_
         refine EVO.q1 (aI64 g.Step) ?_
         refine EVO.pure (v := aB false) (by kernel_rfl) (Eq.trans (b := some (.pure (aB (decide (g.Step > 65536))))) (by kernel_rfl) (by rw [hb6])) ?_
         refine EVO.p1 (aB false) ?_
         refine EVO.p1 (aB false) ?_
         refine EVO.q1 (.hp 0 2) ?_
         refine EVO.q1 (aI64 g.Step) ?_
         refine EVO.q1 (aI64 (g.Step.tmod 2)) ?_
         refine EVO.pure (v := aB false) (by kernel_rfl) (Eq.trans (b := some (.pure (aB (((g.Step.tmod 2) : Int) != 0)))) (by kernel_rfl) (by rw [hb7])) ?_
         refine EVO.p1 (aB false) ?_
         refine EVO.p1 (aB false) ?_
         refine EVO.q1 (.hp 0 0) ?_
         refine EVO.q1 (aI64 g.X0) ?_
         refine EVO.cal (by kernel_rfl) (by kernel_rfl) (callOf_at (by kernel_rfl)) ?_
         refine EVO.p1 (aB false) ?_
         refine EVO.p1 (aB false) ?_
         refine EVO.q1 (.hp 0 1) ?_
         refine EVO.q1 (aI64 g.Y0) ?_
         refine EVO.cal (by kernel_rfl) (by kernel_rfl) (callOf_skip (fun _ h => by obtain e0 := fiduciallaw51_out_inj h; rw [show v11 = false from Option.some.inj (hc12.symm.trans ((show fiduciallaw51_out n g.Y0 = fiduciallaw51_out n g.X0 from (congr rfl e0)).trans hc9))]) (callOf_at (by kernel_rfl))) ?_
         refine EVO.p1 (aB v11) ?_
         refine EVO.done ?_
         refine CQ.n1 [1, 48] (mkS 72 0 [(1, .hp 0 0), (48, aB v11)]) [.own [aI64 g.X0, aI64 g.Y0, aI64 g.Step, aI64 g.Width, aI64 g.Height, sI64 g.Z]] ?_
         refine CQ.cond (t := v11) (by kernel_rfl) (fun hb13 => ?_) (fun hb13 => ?_)
         ·replace hr := cd_t hb13 hr
          refine CQ.seq ?_
          refine CQ.r0 fine ?_
          refine EVO.p1 (aI64 2) ?_
          refine EVO.done ?_
          refine CQ.ret ?_
          obtain rfl := Option.some.inj hr
          exact FinQ.r1 [aI64 2]
         ·replace hr := cd_f hb13 hr
          refine CQ.skip ?_
          refine CQ.seq ?_
          refine CQ.seq ?_
          refine CQ.r0 fine ?_
          refine EVO.p1 (.hp 0 5) ?_
          refine EVO.p1 (sI64 g.Z) ?_
          refine EVO.p1 (aI64 (g.Z.length : Int)) ?_
          refine EVO.p1 (.hp 0 3) ?_
          refine EVO.p1 (aI64 g.Width) ?_
          refine EVO.p1 (.hp 0 4) ?_
          refine EVO.p1 (aI64 g.Height) ?_
          refine EVO.p1 (aI64 (wrapF .i64 (g.Width * g.Height))) ?_
          refine EVO.p1 (aB (((g.Z.length : Int) : Int) != (wrapF .i64 (g.Width * g.Height)))) ?_
          refine EVO.done ?_
          refine CQ.n1 [1, 57] (mkS 72 0 [(1, .hp 0 0), (57, aB (((g.Z.length : Int) : Int) != (wrapF .i64 (g.Width * g.Height))))]) [.own [aI64 g.X0, aI64 g.Y0, aI64 g.Step, aI64 g.Width, aI64 g.Height, sI64 g.Z]] ?_
          refine CQ.cond (t := ((g.Z.length : Int) : Int) != (wrapF .i64 (g.Width * g.Height))) (by kernel_rfl) (fun hb14 => ?_) (fun hb14 => ?_)
          ·replace hr := cd_t hb14 hr
           refine CQ.seq ?_
           refine CQ.r0 fine ?_
           refine EVO.p1 (aI64 4) ?_
           refine EVO.done ?_
           refine CQ.ret ?_
           obtain rfl := Option.some.inj hr
           exact FinQ.r1 [aI64 4]
          ·replace hr := cd_f hb14 hr
           refine CQ.skip ?_
           refine CQ.seq ?_
           refine CQ.seq ?_
           refine CQ.r0 fine ?_
           refine EVO.p1 (.hp 0 5) ?_
           refine EVO.p1 (sI64 g.Z) ?_
           refine EVO.p1 (aI64 (g.Z.length : Int)) ?_
           refine EVO.p1 (aI64 0) ?_
           refine EVO.done ?_
           refine CQ.n1 [59, 60, 61] (mkS 72 0 [(59, sI64 g.Z), (60, aI64 (g.Z.length : Int)), (61, aI64 0)]) [.own [aI64 g.X0, aI64 g.Y0, aI64 g.Step, aI64 g.Width, aI64 g.Height, sI64 g.Z]] ?_
           refine CQ.block ?_
           replace hr := bd hr; obtain ⟨o29, hL30, hr⟩ := hr
           refine CQ.loopO (σ := fun z0 => match z0 with | x_15 => ⟨mkS 72 0 [(59, sI64 g.Z), (60, aI64 (g.Z.length : Int)), (61, aI64 x_15)], []⟩) (Q := fun x st' => match (generalizing := false) o29 with | .inl _ => x = .exit 0 ∧ Wk st' ⟨mkS 72 0 [], []⟩ | .inr (r0) => x = .ret ∧ FinQ Try.prog [.tmp 2] (aI64 r0) .ret st') hL30 ((Wk.gc [59, 60, 61] [] rfl trivial).to (by kernel_rfl)) ?_ ?_
           ·clear hr
            rintro m x_15 hr
            show CQ _ _ _ _ ⟨_, _⟩
            refine CQ.seq ?_
            refine CQ.r0 fine ?_
            refine EVO.p1 (aB (decide (x_15 < (g.Z.length : Int)))) ?_
            refine EVO.done ?_
            refine CQ.seq ?_
            refine CQ.cond (t := decide (x_15 < (g.Z.length : Int))) (by kernel_rfl) (fun hb23 => ?_) (fun hb23 => ?_)
            ·replace hr := cd_t hb23 hr
             refine CQ.skip ?_
             refine CQ.seq ?_
             refine CQ.block ?_
             refine CQ.seq ?_
             replace hr := gd hr; obtain ⟨hg24, hr⟩ := hr
             refine CQ.r0 fine ?_
             refine EVO.p0 (v := .pp (g.Z.flatMap (iC .i64)) (x_15.toNat * 1)) (Eq.trans (b := ORes.ofP (guardV (inR x_15 g.Z.length) (.pp (g.Z.flatMap (iC .i64)) (x_15.toNat * 1)))) (by kernel_rfl) (ofP_guard hg24)) ?_
             refine EVO.p0 (v := aI64 (gt g.Z x_15)) (Eq.trans (b := ORes.ofP ((g.Z.flatMap (iC .i64))[x_15.toNat * 1]?)) (by kernel_rfl) (ofP_some (flat_get (iC_len _) (inR_lt hg24) (by decide : 0 < 1) (by omega : x_15.toNat * 1 = x_15.toNat * 1 + 0) (by kernel_rfl)))) ?_
             refine EVO.p1 (aI64 (gt g.Z x_15)) ?_
             refine EVO.done ?_
             refine CQ.n1 [4, 59, 60, 61] (mkS 72 0 [(4, aI64 (gt g.Z x_15)), (59, sI64 g.Z), (60, aI64 (g.Z.length : Int)), (61, aI64 x_15)]) [] ?_
             refine CQ.seq ?_
             rcases Bool.eq_false_or_eq_true (((gt g.Z x_15) : Int) != (-2147483648)) with hb25 | hb25
             ·replace hr := cd_t hb25 hr
              replace hr := bd hr; obtain ⟨v26, hc27, hr⟩ := hr
              refine CQ.region fine (callOf_1 43 [aI64 (gt g.Z x_15)] [] (.loc (aB v26) [] [] 0) (callOk_val (l := []) (args' := [aI64 (gt g.Z x_15)]) rfl (SnL.cons (Sn.pure rfl) SnL.nil) (fiduciallaw51_out_ok n (gt g.Z x_15) v26 hc27))) ?_
              refine EVO.p1 (aI64 (gt g.Z x_15)) ?_
              refine EVO.p0 (v := aB true) (Eq.trans (b := some (.pure (aB (((gt g.Z x_15) : Int) != (-2147483648))))) (by kernel_rfl) (by rw [hb25])) ?_
              refine EVO.p1 (aB true) ?_
              refine EVO.q1 (aI64 (gt g.Z x_15)) ?_
              refine EVO.cal (by kernel_rfl) (by kernel_rfl) (callOf_at (by kernel_rfl)) ?_
              refine EVO.p1 (aB v26) ?_
              refine EVO.done ?_
              refine CQ.n1 [59, 60, 61, 70] (mkS 72 0 [(59, sI64 g.Z), (60, aI64 (g.Z.length : Int)), (61, aI64 x_15), (70, aB v26)]) [] ?_
              refine CQ.cond (t := v26) (by kernel_rfl) (fun hb28 => ?_) (fun hb28 => ?_)
              ·replace hr := cd_t hb28 hr
               refine CQ.seq ?_
               refine CQ.r0 fine ?_
               refine EVO.p1 (aI64 2) ?_
               refine EVO.done ?_
               refine CQ.ret ?_
               obtain rfl := Option.some.inj hr
               exact ⟨rfl, FinQ.ret (vs := [aI64 2]) (by kernel_rfl) (Sn.pure rfl)⟩
              ·replace hr := cd_f hb28 hr
               refine CQ.skip ?_
               refine CQ.pop ?_
               refine CQ.r0 fine ?_
               refine EVO.p1 (aI64 (wrapF .i64 (x_15 + 1))) ?_
               refine EVO.p1 (aI64 (wrapF .i64 (x_15 + 1))) ?_
               refine EVO.done ?_
               exact loopF_back (wrapF .i64 (x_15 + 1)) hr ((Wk.gc [59, 60, 61] [] rfl trivial).to (by kernel_rfl))
             ·replace hr := cd_f hb25 hr
              refine CQ.r0 fine ?_
              refine EVO.p1 (aI64 (gt g.Z x_15)) ?_
              refine EVO.p0 (v := aB false) (Eq.trans (b := some (.pure (aB (((gt g.Z x_15) : Int) != (-2147483648))))) (by kernel_rfl) (by rw [hb25])) ?_
              refine EVO.p1 (aB false) ?_
              refine EVO.s1 ?_
              refine EVO.s1 ?_
              refine EVO.p1 (aB false) ?_
              refine EVO.done ?_
              refine CQ.n1 [59, 60, 61, 70] (mkS 72 0 [(59, sI64 g.Z), (60, aI64 (g.Z.length : Int)), (61, aI64 x_15), (70, aB false)]) [] ?_
              refine CQ.cF (by kernel_rfl) ?_
              refine CQ.skip ?_
              refine CQ.pop ?_
              refine CQ.r0 fine ?_
              refine EVO.p1 (aI64 (wrapF .i64 (x_15 + 1))) ?_
              refine EVO.p1 (aI64 (wrapF .i64 (x_15 + 1))) ?_
              refine EVO.done ?_
              exact loopF_back (wrapF .i64 (x_15 + 1)) hr ((Wk.gc [59, 60, 61] [] rfl trivial).to (by kernel_rfl))
            ·replace hr := cd_f hb23 hr
             refine CQ.leave rfl ?_
             obtain rfl := Option.some.inj hr
             exact ⟨rfl, ((Wk.gc [] [] rfl trivial).to (by kernel_rfl))⟩
           ·rcases o29 with ⟨⟩ | r0
            ·rintro x st' hq31
             clear hL30
             obtain ⟨rfl, hq31⟩ := hq31
             refine CQ_exit _ rfl ?_
             refine CQ.wk hq31 ?_
             refine CQ.seq ?_
             refine CQ.r0 fine ?_
             refine EVO.p1 (aI64 0) ?_
             refine EVO.done ?_
             refine CQ.ret ?_
             obtain rfl := Option.some.inj hr
             exact FinQ.r1 [aI64 0]
            ·rintro x st' hq31
             clear hL30
             obtain ⟨rfl, hq31⟩ := hq31
             obtain rfl := Option.some.inj hr
             exact CQ_ret _ hq31

theorem fiduciallaw51_Checked_ok (n : Nat) (g : api_Grid) (r : Int) (hr : fiduciallaw51_Checked n g = some r) : FnOk Try.prog 23 [.agg [.at (.int .i64 g.X0), .at (.int .i64 g.Y0), .at (.int .i64 g.Step), .at (.int .i64 g.Width), .at (.int .i64 g.Height), slT (iC .i64) g.Z]] (.at (.int .i64 r)) := by
 unfold fiduciallaw51_Checked at hr
 refine FnOk.body fine Try.func23 (c := (Try.f23.body).getD .skip) rfl (s := mkS 5 0 [(0, .agg [aI64 g.X0, aI64 g.Y0, aI64 g.Step, aI64 g.Width, aI64 g.Height, sI64 g.Z])]) (by kernel_rfl) (rs := [.tmp 2]) rfl ?_
 unfold Try.f23
 simp only [Option.getD_some]
 refine CQ.seq ?_
 refine CQ.r0 fine ?_
 refine EVO.e1 (.hp 0 0) [(0, .own [aI64 g.X0, aI64 g.Y0, aI64 g.Step, aI64 g.Width, aI64 g.Height, sI64 g.Z])] ?_
 refine EVO.p1 (aI64 0) ?_
 refine EVO.done ?_
 refine CQ.n1 [1] (mkS 5 0 [(1, .hp 0 0)]) [.own [aI64 g.X0, aI64 g.Y0, aI64 g.Step, aI64 g.Width, aI64 g.Height, sI64 g.Z]] ?_
 refine CQ.seq ?_
 replace hr := bd hr; obtain ⟨v1, hc2, hr⟩ := hr
 refine CQ.region fine (callOf_1 35 [.agg [aI64 g.X0, aI64 g.Y0, aI64 g.Step, aI64 g.Width, aI64 g.Height, sI64 g.Z]] [.own [aI64 g.X0, aI64 g.Y0, aI64 g.Step, aI64 g.Width, aI64 g.Height, sI64 g.Z]] (.loc (aI64 v1) [] [] 0) (callOk_val (l := []) (args' := [.agg [aI64 g.X0, aI64 g.Y0, aI64 g.Step, aI64 g.Width, aI64 g.Height, sI64 g.Z]]) rfl (SnL.cons (Sn.pure rfl) SnL.nil) (fiduciallaw51_check_ok n g v1 hc2))) ?_
 refine EVO.p1 (.agg [aI64 g.X0, aI64 g.Y0, aI64 g.Step, aI64 g.Width, aI64 g.Height, sI64 g.Z]) ?_
 refine EVO.c0 (by kernel_rfl) (callOf_at (by kernel_rfl)) ?_
 refine EVO.p1 (aI64 v1) ?_
 refine EVO.done ?_
 refine CQ.ret ?_
 obtain rfl := Option.some.inj hr
 exact FinQ.r1 [aI64 v1]
end Go.L
