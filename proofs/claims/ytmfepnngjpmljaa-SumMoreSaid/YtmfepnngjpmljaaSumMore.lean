/- The given statement Rows.SumMoreSaid: quayside/quaysidelaw02.SumMore returns true for all arguments, and leaves its arguments as they were. No further condition. -/
import Derived.Test.YtmfepnngjpmljaaFns1
import Derived.Test.YtmfepnngjpmljaaRows
import Derived.WalkKit
import Derived.ProofKit
import Derived.OpenShut
import Derived.ShutString
import Derived.ChangeOld
import Derived.Below
import Derived.SizedLaws
import Derived.JoinedCond
set_option linter.unusedSimpArgs false
set_option linter.unusedVariables false
set_option maxRecDepth 10000
namespace Go.Proofs.Ytmfepnngjpmljaa
open Go.Q Go.RowKit Go.Proofs
theorem Try.fn10 : Fnc Try.prog 10 Try.f10 := ⟨Try.func10, by kernel_rfl, by kernel_rfl⟩
theorem SumMore_ok (a : List UInt8) (b : List UInt8) (w0 : World) (ha : a.length ≤ 140737488351232) (hb : b.length ≤ 140737488351232) :
    Calls Try.prog 4 #[T a, T b] w0 fun e w => e = .returned (.bool true) ∧ Below w0.heap.size w0 w := by
  refine enter (args := [T a, T b]) Try.func4 rfl Try.ntmps4 rfl ?_
  have H := Sat.start w0
  refine cw_seq ?_
  -- region 0 law.go:49
  refine cw_region (clf [.U]) [0] rfl (by kernel_rfl) ?_
  refine TF.u (v := (.bool _)) rfl rfl (pr_assign rfl) ?_
  refine TF.nil (nx_then ?_)
  refine cw_seq ?_
  refine cw_seq ?_
  -- region 1 law.go:50
  refine cw_region (clf [.X, .U, .U, .U, .U, .U, .U, .U, .U, .U, .U, .U]) [0, 1, 2, 3, 4, 5, 6, 7, 8, 9, 10, 11] rfl (by kernel_rfl) ?_
  refine TF.call (args := []) Try.fn10 rfl rfl (wantF_none rfl) rfl (awake_ok _) ?_
  rintro e_ w1 ⟨rfl, hb1⟩
  refine ⟨_, rfl, ?_⟩
  replace H := H.below hb1
  refine TF.u (v := (.bool _)) rfl rfl (pr_not rfl) ?_
  refine TF.u (v := (.bool _)) rfl rfl (pr_move rfl) ?_
  refine TF.ug (v := (T _)) rfl rfl (wantF_yes rfl rfl rfl rfl) (pr_move rfl) ?_
  refine TF.ug (v := (.int .i64 _)) rfl rfl (wantF_yes rfl rfl rfl rfl) (pr_slen rfl Try.underlying9 rfl) ?_
  refine TF.ug (v := (.bool _)) rfl rfl (wantF_yes rfl rfl rfl rfl) (pr_gtr rfl rfl) ?_
  refine TF.u (v := (.bool _)) rfl rfl (pr_pickF rfl rfl rfl) ?_
  refine TF.u (v := (.bool _)) rfl rfl (pr_move rfl) ?_
  refine TF.split (dj := 12) rfl (fun hq3 => ?_) (fun hq3 => ?_)
  ·
    have hp3 := dT hq3
    refine TF.skip rfl (wantF_no rfl rfl rfl hq3) ?_
    refine TF.skip rfl (wantF_no rfl rfl rfl hq3) ?_
    refine TF.skip rfl (wantF_no rfl rfl rfl hq3) ?_
    refine TF.u (v := (.bool _)) rfl rfl (pr_pickT rfl hq3 rfl) ?_
    refine TF.nil (nx_then ?_)
    refine cw_condT (t := _) rfl rfl rfl ?_
    refine cw_seq ?_
    -- region 2 law.go:51
    refine cw_region (clf [.X, .U]) [0, 1] rfl (by kernel_rfl) ?_
    refine TF.call (args := []) Try.fn10 rfl rfl (wantF_none rfl) rfl (awake_ok _) ?_
    rintro e_ w1 ⟨rfl, hb4⟩
    refine ⟨_, rfl, ?_⟩
    replace H := H.below hb4
    refine TF.u (v := (.bool _)) rfl rfl (pr_assign rfl) ?_
    refine TF.nil (nx_then ?_)
    refine cw_ret (rt_then (fin1 (v := (.bool _)) Try.results4 rfl rfl ?_))
    exact ⟨by simp [moreS_more], H.base⟩
  ·
    have hp3 := dF hq3
    refine TF.ug (v := (T _)) rfl rfl (wantF_yes rfl rfl rfl hq3) (pr_move rfl) ?_
    refine TF.ug (v := (.int .i64 _)) rfl rfl (wantF_yes rfl rfl rfl hq3) (pr_slen rfl Try.underlying9 rfl) ?_
    refine TF.ug (v := (.bool _)) rfl rfl (wantF_yes rfl rfl rfl hq3) (pr_gtr rfl rfl) ?_
    refine TF.u (v := (.bool _)) rfl rfl (pr_pickF rfl hq3 rfl) ?_
    refine TF.nil (nx_then ?_)
    refine cw_cond _ rfl rfl (fun hq6 => ?_) (fun hq6 => ?_)
    ·
      have hp6 := dT hq6
      refine cw_seq ?_
      -- region 2 law.go:51
      refine cw_region (clf [.X, .U]) [0, 1] rfl (by kernel_rfl) ?_
      refine TF.call (args := []) Try.fn10 rfl rfl (wantF_none rfl) rfl (awake_ok _) ?_
      rintro e_ w1 ⟨rfl, hb7⟩
      refine ⟨_, rfl, ?_⟩
      replace H := H.below hb7
      refine TF.u (v := (.bool _)) rfl rfl (pr_assign rfl) ?_
      refine TF.nil (nx_then ?_)
      refine cw_ret (rt_then (fin1 (v := (.bool _)) Try.results4 rfl rfl ?_))
      exact ⟨by simp [moreS_more], H.base⟩
    ·
      have hp6 := dF hq6
      refine cw_skip (nx_then ?_)
      refine cw_seq ?_
      -- region 3 law.go:53
      refine cw_region (clf [.U, .U, .U, .X, .X, .U, .X, .X, .U, .X, .X, .U, .U]) [0, 1, 2, 3, 4, 5, 6, 7, 8, 9, 10, 11, 12] rfl (by kernel_rfl) ?_
      refine TF.u (v := (T _)) rfl rfl (pr_move rfl) ?_
      refine TF.u (v := (T _)) rfl rfl (pr_move rfl) ?_
      refine TF.u (v := (T _)) rfl rfl (pr_sadd rfl rfl (by omega)) ?_
      refine TF.tobytes H rfl (.inl rfl) (wantF_none rfl) Try.underlying9 Try.underlying25 Try.underlying5 rfl (by unfold maxLen; first | omega | (simp only [List.length_append]; omega)) ?_
      clear H
      intro Aow8 cow8 w hcapow8 hb9 H
      refine TF.call (args := [(.slice _ _ _)]) Try.fn11 rfl rfl (wantF_none rfl) rfl (of_ok _ _ _ _ _ (H.rd (k := 0) rfl) (by first | omega | (simp only [List.length_append]; omega))) ?_
      rintro e_ w1 ⟨rfl, hb10⟩
      refine ⟨_, rfl, ?_⟩
      replace H := H.below hb10
      refine TF.u (v := (T _)) rfl rfl (pr_move rfl) ?_
      refine TF.tobytes H rfl (.inl rfl) (wantF_none rfl) Try.underlying9 Try.underlying25 Try.underlying5 rfl (by unfold maxLen; first | omega | (simp only [List.length_append]; omega)) ?_
      clear H
      intro Aow11 cow11 w hcapow11 hb12 H
      refine TF.call (args := [(.slice _ _ _)]) Try.fn11 rfl rfl (wantF_none rfl) rfl (of_ok _ _ _ _ _ (H.rd (k := 0) rfl) (by first | omega | (simp only [List.length_append]; omega))) ?_
      rintro e_ w1 ⟨rfl, hb13⟩
      refine ⟨_, rfl, ?_⟩
      replace H := H.below hb13
      refine TF.u (v := (T _)) rfl rfl (pr_move rfl) ?_
      refine TF.tobytes H rfl (.inl rfl) (wantF_none rfl) Try.underlying9 Try.underlying25 Try.underlying5 rfl (by unfold maxLen; first | omega | (simp only [List.length_append]; omega)) ?_
      clear H
      intro Aow14 cow14 w hcapow14 hb15 H
      refine TF.call (args := [(.int .u32 _), (.slice _ _ _)]) Try.fn13 rfl rfl (wantF_none rfl) rfl (more_ok _ _ _ _ _ _ (H.rd (k := 0) rfl) (by first | omega | (simp only [List.length_append]; omega))) ?_
      rintro e_ w1 ⟨rfl, hb16⟩
      refine ⟨_, rfl, ?_⟩
      replace H := H.below hb16
      refine TF.u (v := (.bool _)) rfl rfl (pr_eql rfl rfl) ?_
      refine TF.u (v := (.bool _)) rfl rfl (pr_assign rfl) ?_
      refine TF.nil (nx_then ?_)
      refine cw_ret (fin1 (v := (.bool _)) Try.results4 rfl rfl ?_)
      exact ⟨by simp [moreS_more], H.base⟩
end Go.Proofs.Ytmfepnngjpmljaa
namespace Go.Proofs.Ytmfepnngjpmljaa
open Go.ChangeShapes Go.WideShapes Go.ChangeAt Go.RowKit
open Go.ChangeMaps (open_string shut_string)
theorem sumMore_own : ownKnob Try.prog.godebug = none := by kernel_rfl
set_option maxRecDepth 100000 in
theorem sumMore_lifted (os : Os) (started : os.Started) (H : Type) (enc : TypeId × Value → H) :
    ReturnsInHanded {} Try.checked os 4 .any (Rows.sumMoreSpec.pre6 enc Try.prog Try.f4 Rows.sumMoreRow.domain false) (Rows.sumMoreSpec.post enc Try.prog Try.f4 false true false false) := by
  refine returnsInHanded_of_change_sized (C := Try.checked) sumMore_own started (by kernel_rfl) Try.func4
    (ChangeSpec.witness6 (enc := enc) (C := Try.checked) false ⟨#[], #[.string .empty, .string .empty], []⟩ 8 (by kernel_rfl) (by kernel_rfl) (by kernel_rfl) (by kernel_rfl)) ?_
  intro W base args ds gs before hval0 hW hcnd hsz0 _
  have hval : ∀ (j : Nat) t v, Try.f4.params[j]? = some t → args[j]? = some v → Value.okWide Try.prog W .any base t v := hval0
  have hW' := hW
  obtain ⟨p, q, hA0, hV, rfl, hfz, hnd⟩ := hW
  have hA : DataW.TrodAll enc Try.prog W 0 (fun _ => true) true Try.f4.params.toList args.toList ds p := hA0
  have hsz : (DataW.weightsEach Try.prog (Try.f4.params.toList ++ Rows.sumMoreSpec.plain.varTypes Try.prog) (ds ++ gs)).all (· ≤ reachBytes) = true := hsz0
  rw [Try.params4] at hA hval hsz
  obtain ⟨v0, vs0, d0, ds0, p0, q0, hargs, rfl, rfl, h0, r0⟩ := trodAll_cons hA
  obtain ⟨v1, vs1, d1, ds1, p1, q1, rfl, rfl, rfl, h1, r1⟩ := trodAll_cons r0
  obtain ⟨rfl, rfl, rfl⟩ := trodAll_nil r1
  obtain rfl : args = #[v0, v1] := by cases args; simp_all
  obtain ⟨rfl, rfl⟩ := trodVars_none hV
  obtain ⟨a0, rfl, rfl, rfl, m0⟩ := open_string Try.underlying9 (hval 0 9 v0 rfl rfl) h0
  have z0 : a0.data.toList.length ≤ 140737488351232 := sized_string hsz (j := 0) rfl rfl
  obtain ⟨a1, rfl, rfl, rfl, m1⟩ := open_string Try.underlying9 (hval 1 9 v1 rfl rfl) h1
  have z1 : a1.data.toList.length ≤ 140737488351232 := sized_string hsz (j := 1) rfl rfl
  clear hA0 hval0
  refine (SumMore_ok a0.data.toList a1.data.toList W z0 z1).mono fun e W' ⟨he, bel⟩ => ?_
  subst he
  exact ⟨_, rfl, _, _, _, [], _, [], hW', trodAll_mk1 (shut_bool Try.underlying4 _), (trodAll_cons_mk (shut_string Try.underlying9 m0) (trodAll_cons_mk (shut_string Try.underlying9 m1) trodAll_mk0)), rfl, bel.frame _, fun h => by cases h⟩
theorem sumMore_holds : Rows.SumMoreSaid :=
  OpenClaim.holds_of_wide 4 Try.f4 rfl rfl rfl rfl rfl rfl rfl ⟨rfl, rfl, rfl, rfl, rfl⟩ rfl rfl rfl rfl rfl (by kernel_rfl) Try.func4 (by kernel_rfl)
    (of_decide_eq_true (by kernel_rfl)) (by unfold Func.isWrapper; first | (rw [if_pos (by decide +kernel)]; kernel_rfl) | (rw [if_neg (by decide +kernel)]; exact ⟨rfl, rfl⟩))
    (fun os started H enc _ => sumMore_lifted os started H enc)
end Go.Proofs.Ytmfepnngjpmljaa
