/- The given statement Rows.PackOrdersSaid: quayside/quaysidelaw01.PackOrders returns true for all arguments, and leaves its arguments as they were. No further condition. -/
import Derived.Test.YtkcjgkbcmhgloaaFns1
import Derived.Test.YtkcjgkbcmhgloaaRows
import Derived.WalkKit
import Derived.ProofKit
import Derived.OpenShut
import Derived.ShutString
import Derived.ChangeOld
import Derived.Below
import Derived.SizedLaws
import Derived.JoinedCond
set_option linter.unusedSimpArgs false
set_option linter.unusedVariables false
set_option maxRecDepth 10000
namespace Go.Proofs.Ytkcjgkbcmhgloaa
open Go.Q Go.RowKit Go.Proofs
theorem Try.fn10 : Fnc Try.prog 10 Try.f10 := ⟨Try.func10, by kernel_rfl, by kernel_rfl⟩
theorem PackOrders_ok (width : Int) (n : Nat) (m : Nat) (w0 : World) (hwidth1 : -9223372036854775808 ≤ width) (hwidth2 : width ≤ 9223372036854775807) (hn : n < 18446744073709551616) (hm : m < 18446744073709551616) :
    Calls Try.prog 6 #[.int .i64 width, .int .u64 (n : Int), .int .u64 (m : Int)] w0 fun e w => e = .returned (.bool true) ∧ Below w0.heap.size w0 w := by
  refine enter (args := [.int .i64 width, .int .u64 (n : Int), .int .u64 (m : Int)]) Try.func6 rfl Try.ntmps6 rfl ?_
  have H := Sat.start w0
  refine cw_seq ?_
  -- region 0 law.go:82
  refine cw_region (clf [.U]) [0] rfl (by kernel_rfl) ?_
  refine TF.u (v := (.bool _)) rfl rfl (pr_assign rfl) ?_
  refine TF.nil (nx_then ?_)
  refine cw_seq ?_
  refine cw_seq ?_
  -- region 1 law.go:83
  refine cw_region (clf [.X, .U]) [0, 1] rfl (by kernel_rfl) ?_
  refine TF.call (args := []) Try.fn10 rfl rfl (wantF_none rfl) rfl (awake_ok _) ?_
  rintro e_ w1 ⟨rfl, hb1⟩
  refine ⟨_, rfl, ?_⟩
  replace H := H.below hb1
  refine TF.u (v := (.bool _)) rfl rfl (pr_not rfl) ?_
  refine TF.nil (nx_then ?_)
  refine cw_condF (t := _) rfl rfl rfl ?_
  refine cw_skip (nx_then ?_)
  refine cw_seq ?_
  refine cw_seq ?_
  -- region 3 law.go:86
  refine cw_region (clf [.U, .U, .X, .U, .U, .U, .U, .X, .U, .U]) [0, 1, 2, 3, 4, 5, 6, 7, 8, 9] rfl (by kernel_rfl) ?_
  refine TF.u (v := (.int .i64 _)) rfl rfl (pr_move rfl) ?_
  refine TF.u (v := (.int .u64 _)) rfl rfl (pr_move rfl) ?_
  refine TF.call (args := [(.int .i64 _), (.int .u64 _)]) Try.fn14 rfl rfl (wantF_none rfl) rfl (rfits_ok _ _ _ (by omega) (by omega) (by omega)) ?_
  rintro e_ w1 ⟨rfl, hb2⟩
  refine ⟨_, rfl, ?_⟩
  replace H := H.below hb2
  refine TF.u (v := (.bool _)) rfl rfl (pr_not rfl) ?_
  refine TF.u (v := (.bool _)) rfl rfl (pr_move rfl) ?_
  refine TF.split (dj := 17) rfl (fun hq4 => ?_) (fun hq4 => ?_)
  ·
    have hp4 := (nT hq4)
    refine TF.skip rfl (wantF_no rfl rfl rfl (bnF (nT hq4))) ?_
    refine TF.skip rfl (wantF_no rfl rfl rfl (bnF (nT hq4))) ?_
    refine TF.skip rfl (wantF_no rfl rfl rfl (bnF (nT hq4))) ?_
    refine TF.skip rfl (wantF_no rfl rfl rfl (bnF (nT hq4))) ?_
    refine TF.u (v := (.bool _)) rfl rfl (pr_pickT rfl (bnF (nT hq4)) rfl) ?_
    refine TF.nil (nx_then ?_)
    refine cw_condT (t := _) rfl rfl rfl ?_
    refine cw_seq ?_
    -- region 4 law.go:87
    refine cw_region (clf [.U]) [0] rfl (by kernel_rfl) ?_
    refine TF.u (v := (.bool _)) rfl rfl (pr_assign rfl) ?_
    refine TF.nil (nx_then ?_)
    refine cw_ret (rt_then (fin1 (v := (.bool _)) Try.results6 rfl rfl ?_))
    exact ⟨by simp, H.base⟩
  ·
    have hp4 := (nF hq4)
    refine TF.ug (v := (.int .i64 _)) rfl rfl (wantF_yes rfl rfl rfl (bnT (nF hq4))) (pr_move rfl) ?_
    refine TF.ug (v := (.int .u64 _)) rfl rfl (wantF_yes rfl rfl rfl (bnT (nF hq4))) (pr_move rfl) ?_
    refine TF.call (args := [(.int .i64 _), (.int .u64 _)]) Try.fn14 rfl rfl (wantF_yes rfl rfl rfl (bnT (nF hq4))) rfl (rfits_ok _ _ _ (by omega) (by omega) (by omega)) ?_
    rintro e_ w1 ⟨rfl, hb5⟩
    refine ⟨_, rfl, ?_⟩
    replace H := H.below hb5
    refine TF.ug (v := (.bool _)) rfl rfl (wantF_yes rfl rfl rfl (bnT (nF hq4))) (pr_not rfl) ?_
    refine TF.u (v := (.bool _)) rfl rfl (pr_pickF rfl (bnT (nF hq4)) rfl) ?_
    refine TF.nil (nx_then ?_)
    refine cw_cond _ rfl rfl (fun hq7 => ?_) (fun hq7 => ?_)
    ·
      have hp7 := (nT hq7)
      refine cw_seq ?_
      -- region 4 law.go:87
      refine cw_region (clf [.U]) [0] rfl (by kernel_rfl) ?_
      refine TF.u (v := (.bool _)) rfl rfl (pr_assign rfl) ?_
      refine TF.nil (nx_then ?_)
      refine cw_ret (rt_then (fin1 (v := (.bool _)) Try.results6 rfl rfl ?_))
      exact ⟨by simp, H.base⟩
    ·
      have hp7 := (nF hq7)
      refine cw_skip (nx_then ?_)
      refine cw_seq ?_
      -- region 5 law.go:89
      refine cw_region (clf [.U, .U, .X, .U, .U, .U, .U, .U]) [0, 1, 2, 3, 4, 5, 6, 7] rfl (by kernel_rfl) ?_
      have hf1 : fitsS width n = true := by assumption
      have hf2 : fitsS width m = true := by assumption
      obtain ⟨hw3, hw4, hw5⟩ := fits_bounds hf1
      obtain ⟨wd, rfl⟩ := Int.eq_ofNat_of_zero_le (show 0 ≤ width by omega)
      have ey1 := putS_yes (b := []) hf1
      have ey2 := putS_yes (b := []) hf2
      simp only [List.nil_append, Int.toNat_natCast] at ey1 ey2
      refine TF.u (v := (.int .i64 _)) rfl rfl (pr_move rfl) ?_
      refine TF.u (v := (.int .u64 _)) rfl rfl (pr_move rfl) ?_
      refine TF.call (args := [(.slice _ _ _), (.int .i64 _), (.int .u64 _)]) Try.fn11 rfl rfl (wantF_none rfl) rfl (put_ok _ _ _ _ _ _ _ (RdB.nil _) (by omega) (by omega) (by omega) (by omega)) ?_
      rintro e_ w1 ⟨A8, n8, c8, rfl, hn8⟩
      refine ⟨_, rfl, ?_⟩
      replace H := H.newS hn8
      refine TF.u (v := (.tuple _)) rfl rfl (pr_move rfl) ?_
      refine TF.u (v := (.slice _ _ _)) rfl rfl (pr_extract (vs := _) rfl rfl) ?_
      refine TF.u (v := (.int .i64 _)) rfl rfl (pr_extract (vs := _) rfl rfl) ?_
      refine TF.u (v := (.slice _ _ _)) rfl rfl (pr_assign rfl) ?_
      refine TF.u (v := (.int .i64 _)) rfl rfl (pr_assign rfl) ?_
      refine TF.nil (nx_then ?_)
      refine cw_seq ?_
      -- region 6 law.go:90
      refine cw_region (clf [.U, .U, .X, .U, .U, .U, .U, .U]) [0, 1, 2, 3, 4, 5, 6, 7] rfl (by kernel_rfl) ?_
      refine TF.u (v := (.int .i64 _)) rfl rfl (pr_move rfl) ?_
      refine TF.u (v := (.int .u64 _)) rfl rfl (pr_move rfl) ?_
      refine TF.call (args := [(.slice _ _ _), (.int .i64 _), (.int .u64 _)]) Try.fn11 rfl rfl (wantF_none rfl) rfl (put_ok _ _ _ _ _ _ _ (RdB.nil _) (by omega) (by omega) (by omega) (by omega)) ?_
      rintro e_ w1 ⟨A10, n10, c10, rfl, hn10⟩
      refine ⟨_, rfl, ?_⟩
      replace H := H.newS hn10
      refine TF.u (v := (.tuple _)) rfl rfl (pr_move rfl) ?_
      refine TF.u (v := (.slice _ _ _)) rfl rfl (pr_extract (vs := _) rfl rfl) ?_
      refine TF.u (v := (.int .i64 _)) rfl rfl (pr_extract (vs := _) rfl rfl) ?_
      refine TF.u (v := (.slice _ _ _)) rfl rfl (pr_assign rfl) ?_
      refine TF.u (v := (.int .i64 _)) rfl rfl (pr_assign rfl) ?_
      rw [ey1, ey2] at H ⊢
      refine TF.nil (nx_then ?_)
      refine cw_seq ?_
      -- region 7 law.go:91
      refine cw_region (clf [.U, .U, .U, .U, .U, .U, .U, .U, .X, .U, .X, .U, .U, .U, .U, .U, .U, .U]) [0, 1, 2, 3, 4, 5, 6, 7, 8, 9, 10, 11, 12, 13, 14, 15, 16, 17] rfl (by kernel_rfl) ?_
      refine TF.u (v := (.int .i64 _)) rfl rfl (pr_move rfl) ?_
      refine TF.u (v := (.bool _)) rfl rfl (pr_eql rfl rfl) ?_
      refine TF.u (v := (.bool _)) rfl rfl (pr_move rfl) ?_
      refine TF.split (dj := 37) rfl ?_ (fun hq13 => by
          have hp13 := dF hq13
          exfalso
          first | omega | exact hp13 rfl | exact hp13 (by decide) | (simp at hp13; done))
      intro hq13
      have hp13 := dT hq13
      refine TF.ug (v := (.int .i64 _)) rfl rfl (wantF_yes rfl rfl rfl hq13) (pr_move rfl) ?_
      refine TF.ug (v := (.bool _)) rfl rfl (wantF_yes rfl rfl rfl hq13) (pr_eql rfl rfl) ?_
      refine TF.u (v := (.bool _)) rfl rfl (pr_pickT rfl hq13 rfl) ?_
      refine TF.u (v := (.bool _)) rfl rfl (pr_move rfl) ?_
      refine TF.split (dj := 41) rfl ?_ (fun hq15 => by
          have hp15 := dF hq15
          exfalso
          first | omega | exact hp15 rfl | exact hp15 (by decide) | (simp at hp15; done))
      intro hq15
      have hp15 := dT hq15
      refine TF.ug (v := (.slice _ _ _)) rfl rfl (wantF_yes rfl rfl rfl hq15) (pr_move rfl) ?_
      refine TF.tostr (H.rd (k := 1) rfl) rfl rfl (wantF_yes rfl rfl rfl hq15) Try.underlying24 Try.underlying5 Try.underlying9 rfl ?_
      refine TF.ug (v := (.slice _ _ _)) rfl rfl (wantF_yes rfl rfl rfl hq15) (pr_move rfl) ?_
      refine TF.tostr (H.rd (k := 0) rfl) rfl rfl (wantF_yes rfl rfl rfl hq15) Try.underlying24 Try.underlying5 Try.underlying9 rfl ?_
      refine TF.ug (v := (.bool _)) rfl rfl (wantF_yes rfl rfl rfl hq15) (pr_slss rfl rfl) ?_
      refine TF.ug (v := (.int .u64 _)) rfl rfl (wantF_yes rfl rfl rfl hq15) (pr_move rfl) ?_
      refine TF.ug (v := (.int .u64 _)) rfl rfl (wantF_yes rfl rfl rfl hq15) (pr_move rfl) ?_
      refine TF.ug (v := (.bool _)) rfl rfl (wantF_yes rfl rfl rfl hq15) (pr_lss rfl rfl) ?_
      refine TF.ug (v := (.bool _)) rfl rfl (wantF_yes rfl rfl rfl hq15) (pr_beql Try.underlying4 rfl rfl) ?_
      refine TF.u (v := (.bool _)) rfl rfl (pr_pickT rfl hq15 rfl) ?_
      refine TF.u (v := (.bool _)) rfl rfl (pr_assign rfl) ?_
      refine TF.nil (nx_then ?_)
      refine cw_ret (fin1 (v := (.bool _)) Try.results6 rfl rfl ?_)
      exact ⟨by simp [orders hf1 hf2], H.base⟩
end Go.Proofs.Ytkcjgkbcmhgloaa
namespace Go.Proofs.Ytkcjgkbcmhgloaa
open Go.ChangeShapes Go.WideShapes Go.ChangeAt Go.RowKit
open Go.ChangeMaps (open_string shut_string)
theorem packOrders_own : ownKnob Try.prog.godebug = none := by kernel_rfl
set_option maxRecDepth 100000 in
theorem packOrders_lifted (os : Os) (started : os.Started) (H : Type) (enc : TypeId × Value → H) :
    ReturnsInHanded {} Try.checked os 6 .any (Rows.packOrdersSpec.pre6 enc Try.prog Try.f6 Rows.packOrdersRow.domain false) (Rows.packOrdersSpec.post enc Try.prog Try.f6 false true false false) := by
  refine returnsInHanded_of_change_sized (C := Try.checked) packOrders_own started (by kernel_rfl) Try.func6
    (ChangeSpec.witness6 (enc := enc) (C := Try.checked) false ⟨#[], #[.int .i64 0, .int .u64 0, .int .u64 0], []⟩ 8 (by kernel_rfl) (by kernel_rfl) (by kernel_rfl) (by kernel_rfl)) ?_
  intro W base args ds gs before hval0 hW hcnd hsz0 _
  have hval : ∀ (j : Nat) t v, Try.f6.params[j]? = some t → args[j]? = some v → Value.okWide Try.prog W .any base t v := hval0
  have hW' := hW
  obtain ⟨p, q, hA0, hV, rfl, hfz, hnd⟩ := hW
  have hA : DataW.TrodAll enc Try.prog W 0 (fun _ => true) true Try.f6.params.toList args.toList ds p := hA0
  have hsz : (DataW.weightsEach Try.prog (Try.f6.params.toList ++ Rows.packOrdersSpec.plain.varTypes Try.prog) (ds ++ gs)).all (· ≤ reachBytes) = true := hsz0
  rw [Try.params6] at hA hval hsz
  obtain ⟨v0, vs0, d0, ds0, p0, q0, hargs, rfl, rfl, h0, r0⟩ := trodAll_cons hA
  obtain ⟨v1, vs1, d1, ds1, p1, q1, rfl, rfl, rfl, h1, r1⟩ := trodAll_cons r0
  obtain ⟨v2, vs2, d2, ds2, p2, q2, rfl, rfl, rfl, h2, r2⟩ := trodAll_cons r1
  obtain ⟨rfl, rfl, rfl⟩ := trodAll_nil r2
  obtain rfl : args = #[v0, v1, v2] := by cases args; simp_all
  obtain ⟨rfl, rfl⟩ := trodVars_none hV
  obtain ⟨a0, rfl, rfl, rfl, m0⟩ := open_int Try.underlying3 (hval 0 3 v0 rfl rfl) h0
  have z0 := bounds_i64 m0
  obtain ⟨a1, rfl, rfl, rfl, m1⟩ := open_int Try.underlying22 (hval 1 22 v1 rfl rfl) h1
  have z1 := bounds_u64 m1
  obtain ⟨b1, rfl⟩ := Int.eq_ofNat_of_zero_le z1.1
  obtain ⟨a2, rfl, rfl, rfl, m2⟩ := open_int Try.underlying22 (hval 2 22 v2 rfl rfl) h2
  have z2 := bounds_u64 m2
  obtain ⟨b2, rfl⟩ := Int.eq_ofNat_of_zero_le z2.1
  clear hA0 hval0
  refine (PackOrders_ok a0 b1 b2 W z0.1 z0.2 (by omega) (by omega)).mono fun e W' ⟨he, bel⟩ => ?_
  subst he
  exact ⟨_, rfl, _, _, _, [], _, [], hW', trodAll_mk1 (shut_bool Try.underlying4 _), (trodAll_cons_mk (shut_int Try.underlying3 m0) (trodAll_cons_mk (shut_int Try.underlying22 m1) (trodAll_cons_mk (shut_int Try.underlying22 m2) trodAll_mk0))), rfl, bel.frame _, fun h => by cases h⟩
theorem packOrders_holds : Rows.PackOrdersSaid :=
  OpenClaim.holds_of_wide 6 Try.f6 rfl rfl rfl rfl rfl rfl rfl ⟨rfl, rfl, rfl, rfl, rfl⟩ rfl rfl rfl rfl rfl (by kernel_rfl) Try.func6 (by kernel_rfl)
    (of_decide_eq_true (by kernel_rfl)) (by unfold Func.isWrapper; first | (rw [if_pos (by decide +kernel)]; kernel_rfl) | (rw [if_neg (by decide +kernel)]; exact ⟨rfl, rfl⟩))
    (fun os started H enc _ => packOrders_lifted os started H enc)
end Go.Proofs.Ytkcjgkbcmhgloaa
