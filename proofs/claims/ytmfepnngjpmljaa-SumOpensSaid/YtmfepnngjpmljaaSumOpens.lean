/- The given statement Rows.SumOpensSaid: quayside/quaysidelaw02.SumOpens returns true for all arguments, and leaves its arguments as they were. No further condition. -/
import Derived.Test.YtmfepnngjpmljaaFns1
import Derived.Test.YtmfepnngjpmljaaRows
import Derived.WalkKit
import Derived.ProofKit
import Derived.OpenShut
import Derived.ShutString
import Derived.ChangeOld
import Derived.Below
import Derived.SizedLaws
import Derived.JoinedCond
set_option linter.unusedSimpArgs false
set_option linter.unusedVariables false
set_option maxRecDepth 10000
namespace Go.Proofs.Ytmfepnngjpmljaa
open Go.Q Go.RowKit Go.Proofs
theorem Try.fn10 : Fnc Try.prog 10 Try.f10 := ⟨Try.func10, by kernel_rfl, by kernel_rfl⟩
theorem Try.fn15 : Fnc Try.prog 15 Try.f15 := ⟨Try.func15, by kernel_rfl, by kernel_rfl⟩
theorem Try.fn16 : Fnc Try.prog 16 Try.f16 := ⟨Try.func16, by kernel_rfl, by kernel_rfl⟩
theorem Try.fn17 : Fnc Try.prog 17 Try.f17 := ⟨Try.func17, by kernel_rfl, by kernel_rfl⟩
theorem SumOpens_ok (b : List UInt8) (w0 : World) (hb : b.length ≤ 140737488351232) :
    Calls Try.prog 6 #[T b] w0 fun e w => e = .returned (.bool true) ∧ Below w0.heap.size w0 w := by
  refine enter (args := [T b]) Try.func6 rfl Try.ntmps6 rfl ?_
  have H := Sat.start w0
  refine cw_seq ?_
  -- region 0 law.go:25
  refine cw_region (clf [.U]) [0] rfl (by kernel_rfl) (by decide) ?_
  refine TF.u (v := (.bool _)) rfl rfl (pr_assign rfl) ?_
  refine TF.nil (nx_then ?_)
  refine cw_seq ?_
  refine cw_seq ?_
  -- region 1 law.go:26
  refine cw_region (clf [.X, .U, .U, .U, .U, .U, .U]) [0, 1, 2, 3, 4, 5, 6] rfl (by kernel_rfl) (by decide) ?_
  refine TF.call (args := []) Try.fn10 rfl rfl (wantF_none rfl) rfl (awake_ok _) ?_
  rintro e_ w ⟨rfl, hb1⟩
  refine ⟨_, rfl, ?_⟩
  replace H := H.below hb1
  refine TF.u (v := (.bool _)) rfl rfl (pr_not rfl) ?_
  refine TF.u (v := (.bool _)) rfl rfl (pr_move rfl) ?_
  refine TF.ug (v := (T _)) rfl rfl (wantF_yes rfl rfl rfl rfl) (pr_move rfl) ?_
  refine TF.ug (v := (.int .i64 _)) rfl rfl (wantF_yes rfl rfl rfl rfl) (pr_slen rfl Try.underlying9 rfl) ?_
  refine TF.ug (v := (.bool _)) rfl rfl (wantF_yes rfl rfl rfl rfl) (pr_gtr rfl rfl) ?_
  refine TF.u (v := (.bool _)) rfl rfl (pr_pickF rfl rfl rfl) ?_
  refine TF.nil (nx_then ?_)
  refine cw_cond _ rfl rfl (fun hq3 => ?_) (fun hq3 => ?_)
  ·
    have hp3 := dT hq3
    refine cw_seq ?_
    -- region 2 law.go:27
    refine cw_region (clf [.X, .U]) [0, 1] rfl (by kernel_rfl) (by decide) ?_
    refine TF.call (args := []) Try.fn10 rfl rfl (wantF_none rfl) rfl (awake_ok _) ?_
    rintro e_ w ⟨rfl, hb4⟩
    refine ⟨_, rfl, ?_⟩
    replace H := H.below hb4
    refine TF.u (v := (.bool _)) rfl rfl (pr_assign rfl) ?_
    refine TF.nil (nx_then ?_)
    refine cw_ret (rt_then (fin1 (v := (.bool _)) Try.results6 rfl rfl ?_))
    exact ⟨by simp, H.base⟩
  ·
    have hp3 := dF hq3
    refine cw_skip (nx_then ?_)
    refine cw_seq ?_
    -- region 3 law.go:29
    refine cw_region (clf [.U, .X, .X, .U, .U, .U, .U, .U]) [0, 1, 2, 3, 4, 5, 6, 7] rfl (by kernel_rfl) (by decide) ?_
    refine TF.u (v := (T _)) rfl rfl (pr_move rfl) ?_
    refine TF.tobytes H rfl (Cx.xx rfl) (wantF_none rfl) Try.underlying9 Try.underlying25 Try.underlying5 rfl (by unfold maxLen; first | omega | (simp only [List.length_append]; omega)) ?_
    clear H
    intro Aow5 cow5 w hcapow5 hb6 H
    refine TF.call (args := [(.slice _ _ _)]) Try.fn15 rfl rfl (wantF_none rfl) rfl (open_ok _ _ _ _ _ (H.rd (k := 0) rfl) (by first | omega | (simp only [List.length_append]; omega))) ?_
    rintro e_ w ⟨A7, n7, c7, rfl, hn7⟩
    refine ⟨_, rfl, ?_⟩
    replace H := H.newS hn7
    refine TF.u (v := (.tuple _)) rfl rfl (pr_move rfl) ?_
    refine TF.u (v := (.slice _ _ _)) rfl rfl (pr_extract (vs := _) rfl rfl) ?_
    refine TF.u (v := (.int .i64 _)) rfl rfl (pr_extract (vs := _) rfl rfl) ?_
    refine TF.u (v := (.slice _ _ _)) rfl rfl (pr_assign rfl) ?_
    refine TF.u (v := (.int .i64 _)) rfl rfl (pr_assign rfl) ?_
    refine TF.nil (nx_then ?_)
    refine cw_seq ?_
    -- region 4 law.go:30
    refine cw_region (clf [.U, .X, .U, .U, .U, .U, .U]) [0, 1, 2, 3, 4, 5, 6] rfl (by kernel_rfl) (by decide) ?_
    refine TF.u (v := (T _)) rfl rfl (pr_move rfl) ?_
    refine TF.call (args := [(T _)]) Try.fn16 rfl rfl (wantF_none rfl) rfl (ropen_ok _ _ (by omega)) ?_
    rintro e_ w ⟨rfl, hb9⟩
    refine ⟨_, rfl, ?_⟩
    replace H := H.below hb9
    refine TF.u (v := (.tuple _)) rfl rfl (pr_move rfl) ?_
    refine TF.u (v := (T _)) rfl rfl (pr_extract (vs := _) rfl rfl) ?_
    refine TF.u (v := (.int .i64 _)) rfl rfl (pr_extract (vs := _) rfl rfl) ?_
    refine TF.u (v := (T _)) rfl rfl (pr_assign rfl) ?_
    refine TF.u (v := (.int .i64 _)) rfl rfl (pr_assign rfl) ?_
    refine TF.nil (nx_then ?_)
    refine cw_seq ?_
    -- region 5 law.go:31
    refine cw_drawS H Try.wide_ (clf [.U, .R, .U, .U, .U, .U, .U, .U, .U, .U, .U, .P, .P, .R, .U, .P, .U, .U, .U]) [0, 1, 2, 3, 4, 5, 6, 7, 8, 9, 10, 14, 11, 12, 13, 15, 16, 17, 18] (by kernel_rfl) (by kernel_rfl) ?_
    clear H
    intro w hbr H hB
    refine TF.u (v := (.slice _ _ _)) rfl rfl (pr_move rfl) ?_
    refine TF.tostrr (RdS.all (H.rd (k := 0) rfl)) rfl rfl (wantF_none rfl) Try.underlying25 Try.underlying5 Try.underlying9 rfl ?_
    refine TF.u (v := (T _)) rfl rfl (pr_move rfl) ?_
    refine TF.u (v := (.bool _)) rfl rfl (pr_seql rfl rfl) ?_
    refine TF.u (v := (.bool _)) rfl rfl (pr_move rfl) ?_
    refine TF.split (dj := 30) rfl ?_ (fun hq11 => by
        have hp11 := eF hq11
        exfalso
        first | omega | exact hp11 rfl | exact hp11 (by decide) | (simp at hp11; done))
    intro hq11
    have hp11 := eT hq11
    refine TF.ug (v := (.int .i64 _)) rfl rfl (wantF_yes rfl rfl rfl hq11) (pr_move rfl) ?_
    refine TF.ug (v := (.int .i64 _)) rfl rfl (wantF_yes rfl rfl rfl hq11) (pr_move rfl) ?_
    refine TF.ug (v := (.bool _)) rfl rfl (wantF_yes rfl rfl rfl hq11) (pr_eql rfl rfl) ?_
    refine TF.u (v := (.bool _)) rfl rfl (pr_pickT rfl hq11 rfl) ?_
    refine TF.u (v := (.bool _)) rfl rfl (pr_move rfl) ?_
    refine TF.split (dj := 35) rfl ?_ (fun hq13 => by
        have hp13 := dF hq13
        exfalso
        first | omega | exact hp13 rfl | exact hp13 (by decide) | (simp at hp13; done))
    intro hq13
    have hp13 := dT hq13
    refine TF.ug (v := (T _)) rfl rfl (wantF_yes rfl rfl rfl hq13) (pr_move rfl) ?_
    refine TF.ug (v := (T _)) rfl rfl (wantF_yes rfl rfl rfl hq13) (pr_move rfl) ?_
    refine TF.tobytes H rfl (Cx.re hB rfl) (wantF_yes rfl rfl rfl hq13) Try.underlying9 Try.underlying25 Try.underlying5 rfl (by unfold maxLen; first | omega | (simp only [List.length_append]; omega)) ?_
    clear H
    intro Aow14 cow14 w hcapow14 hb15 H
    replace hB := Below.refl w.heap.size w
    refine TF.callp (args := [(.slice _ _ _)]) Try.fn17 rfl rfl (wantF_yes rfl rfl rfl hq13) rfl (seal_ok _ _ _ _ _ (H.rd (k := 0) rfl) (by first | omega | (simp only [List.length_append]; omega))) ?_
    rintro e_ w ⟨A16, n16, c16, rfl, hn16⟩
    refine ⟨_, rfl, fun x => Below w.heap.size w x, fun x hx => below_trans (below_trans hB hn16.below) hx, Below.refl _ _, ?_⟩
    replace hB := Below.refl w.heap.size w
    replace H := H.newS hn16
    refine TF.tostrr (RdS.all (H.rd (k := 0) rfl)) rfl rfl (wantF_yes rfl rfl rfl hq13) Try.underlying25 Try.underlying5 Try.underlying9 rfl ?_
    refine TF.callp (args := [(T _)]) Try.fn18 rfl rfl (wantF_yes rfl rfl rfl hq13) rfl (rseal_ok _ _ (by first | omega | (simp; omega))) ?_
    rintro e_ w ⟨rfl, hb18⟩
    refine ⟨_, rfl, fun x => Below w.heap.size w x, fun x hx => below_trans (below_trans hB hb18) hx, Below.refl _ _, ?_⟩
    replace hB := Below.refl w.heap.size w
    replace H := H.below hb18
    refine TF.ug (v := (.bool _)) rfl rfl (wantF_yes rfl rfl rfl hq13) (pr_seql rfl rfl) ?_
    refine TF.u (v := (.bool _)) rfl rfl (pr_pickT rfl hq13 rfl) ?_
    refine TF.u (v := (.bool _)) rfl rfl (pr_assign rfl) ?_
    clear hB
    refine TF.nil (nx_then ?_)
    refine cw_ret (fin1 (v := (.bool _)) Try.results6 rfl rfl ?_)
    exact ⟨by simp, H.base⟩
end Go.Proofs.Ytmfepnngjpmljaa
namespace Go.Proofs.Ytmfepnngjpmljaa
open Go.ChangeShapes Go.WideShapes Go.ChangeAt Go.RowKit
open Go.ChangeMaps (open_string shut_string)
theorem sumOpens_own : ownKnob Try.prog.godebug = none := by kernel_rfl
set_option maxRecDepth 100000 in
theorem sumOpens_lifted (os : Os) (started : os.Started) (H : Type) (enc : TypeId × Value → H) :
    ReturnsInHanded {} Try.checked os 6 .any (Rows.sumOpensSpec.pre6 enc Try.prog Try.f6 Rows.sumOpensRow.domain false) (Rows.sumOpensSpec.post enc Try.prog Try.f6 false true false false) := by
  refine returnsInHanded_of_change_sized (C := Try.checked) sumOpens_own started (by kernel_rfl) Try.func6
    (ChangeSpec.witness6 (enc := enc) (C := Try.checked) false ⟨#[], #[.string .empty], []⟩ 8 (by kernel_rfl) (by kernel_rfl) (by kernel_rfl) (by kernel_rfl)) ?_
  intro W base args ds gs before hval0 hW hcnd hsz0 _
  have hval : ∀ (j : Nat) t v, Try.f6.params[j]? = some t → args[j]? = some v → Value.okWide Try.prog W .any base t v := hval0
  have hW' := hW
  obtain ⟨p, q, hA0, hV, rfl, hfz, hnd⟩ := hW
  have hA : DataW.TrodAll enc Try.prog W 0 (fun _ => true) true Try.f6.params.toList args.toList ds p := hA0
  have hsz : (DataW.weightsEach Try.prog (Try.f6.params.toList ++ Rows.sumOpensSpec.plain.varTypes Try.prog) (ds ++ gs)).all (· ≤ reachBytes) = true := hsz0
  rw [Try.params6] at hA hval hsz
  obtain ⟨v0, vs0, d0, ds0, p0, q0, hargs, rfl, rfl, h0, r0⟩ := trodAll_cons hA
  obtain ⟨rfl, rfl, rfl⟩ := trodAll_nil r0
  obtain rfl : args = #[v0] := by cases args; simp_all
  obtain ⟨rfl, rfl⟩ := trodVars_none hV
  obtain ⟨a0, rfl, rfl, rfl, m0⟩ := open_string Try.underlying9 (hval 0 9 v0 rfl rfl) h0
  have z0 : a0.data.toList.length ≤ 140737488351232 := sized_string hsz (j := 0) rfl rfl
  clear hA0 hval0
  refine (SumOpens_ok a0.data.toList W z0).mono fun e W' ⟨he, bel⟩ => ?_
  subst he
  exact ⟨_, rfl, _, _, _, [], _, [], hW', trodAll_mk1 (shut_bool Try.underlying4 _), (trodAll_cons_mk (shut_string Try.underlying9 m0) trodAll_mk0), rfl, bel.frame _, fun h => by cases h⟩
theorem sumOpens_holds : Rows.SumOpensSaid :=
  OpenClaim.holds_of_wide 6 Try.f6 rfl rfl rfl rfl rfl rfl rfl ⟨rfl, rfl, rfl, rfl, rfl⟩ rfl rfl rfl rfl rfl (by kernel_rfl) Try.func6 (by kernel_rfl)
    (of_decide_eq_true (by kernel_rfl)) (by unfold Func.isWrapper; first | (rw [if_pos (by decide +kernel)]; kernel_rfl) | (rw [if_neg (by decide +kernel)]; exact ⟨rfl, rfl⟩))
    (fun os started H enc _ => sumOpens_lifted os started H enc)
end Go.Proofs.Ytmfepnngjpmljaa
