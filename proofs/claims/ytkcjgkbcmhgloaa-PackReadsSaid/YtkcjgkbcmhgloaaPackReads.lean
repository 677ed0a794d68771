/- The given statement Rows.PackReadsSaid: quayside/quaysidelaw01.PackReads returns true for all arguments, and leaves its arguments as they were. No further condition. -/
import Derived.Test.YtkcjgkbcmhgloaaFns1
import Derived.Test.YtkcjgkbcmhgloaaRows
import Derived.WalkKit
import Derived.ProofKit
import Derived.OpenShut
import Derived.ShutString
import Derived.ChangeOld
import Derived.Below
import Derived.SizedLaws
import Derived.JoinedCond
set_option linter.unusedSimpArgs false
set_option linter.unusedVariables false
set_option maxRecDepth 10000
namespace Go.Proofs.Ytkcjgkbcmhgloaa
open Go.Q Go.RowKit Go.Proofs
theorem Try.fn10 : Fnc Try.prog 10 Try.f10 := ⟨Try.func10, by kernel_rfl, by kernel_rfl⟩
theorem Try.fn18 : Fnc Try.prog 18 Try.f18 := ⟨Try.func18, by kernel_rfl, by kernel_rfl⟩
theorem Try.fn19 : Fnc Try.prog 19 Try.f19 := ⟨Try.func19, by kernel_rfl, by kernel_rfl⟩
theorem PackReads_ok (b : List UInt8) (at_ : Int) (w0 : World) (hb : b.length ≤ 140737488351232) (hat_1 : -9223372036854775808 ≤ at_) (hat_2 : at_ ≤ 9223372036854775807) :
    Calls Try.prog 8 #[T b, .int .i64 at_] w0 fun e w => e = .returned (.bool true) ∧ Below w0.heap.size w0 w := by
  refine enter (args := [T b, .int .i64 at_]) Try.func8 rfl Try.ntmps8 rfl ?_
  have H := Sat.start w0
  refine cw_seq ?_
  -- region 0 law.go:55
  refine cw_region (clf [.U]) [0] rfl (by kernel_rfl) ?_
  refine TF.u (v := (.bool _)) rfl rfl (pr_assign rfl) ?_
  refine TF.nil (nx_then ?_)
  refine cw_seq ?_
  refine cw_seq ?_
  -- region 1 law.go:56
  refine cw_region (clf [.X, .U]) [0, 1] rfl (by kernel_rfl) ?_
  refine TF.call (args := []) Try.fn10 rfl rfl (wantF_none rfl) rfl (awake_ok _) ?_
  rintro e_ w1 ⟨rfl, hb1⟩
  refine ⟨_, rfl, ?_⟩
  replace H := H.below hb1
  refine TF.u (v := (.bool _)) rfl rfl (pr_not rfl) ?_
  refine TF.nil (nx_then ?_)
  refine cw_condF (t := _) rfl rfl rfl ?_
  refine cw_skip (nx_then ?_)
  refine cw_seq ?_
  -- region 3 law.go:59
  refine cw_region (clf [.U, .X, .U, .X, .U, .U, .U, .U, .U, .U, .U]) [0, 1, 2, 3, 4, 5, 6, 7, 8, 9, 10] rfl (by kernel_rfl) ?_
  refine TF.u (v := (T _)) rfl rfl (pr_move rfl) ?_
  refine TF.tobytes H rfl (.inl rfl) (wantF_none rfl) Try.underlying9 Try.underlying24 Try.underlying5 rfl (by unfold maxLen; omega) ?_
  clear H
  intro Aow2 cow2 w hcapow2 hb3 H
  refine TF.u (v := (.int .i64 _)) rfl rfl (pr_move rfl) ?_
  refine TF.call (args := [(.slice _ _ _), (.int .i64 _)]) Try.fn18 rfl rfl (wantF_none rfl) rfl (takeText_ok _ _ _ _ _ _ (H.rd (k := 0) rfl) (by omega) (by omega) (by omega)) ?_
  rintro e_ w1 ⟨rfl, hb4⟩
  refine ⟨_, rfl, ?_⟩
  replace H := H.below hb4
  refine TF.u (v := (.tuple _)) rfl rfl (pr_move rfl) ?_
  refine TF.u (v := (T _)) rfl rfl (pr_extract (vs := _) rfl rfl) ?_
  refine TF.u (v := (.int .i64 _)) rfl rfl (pr_extract (vs := _) rfl rfl) ?_
  refine TF.u (v := (.int .i64 _)) rfl rfl (pr_extract (vs := _) rfl rfl) ?_
  refine TF.u (v := (T _)) rfl rfl (pr_assign rfl) ?_
  refine TF.u (v := (.int .i64 _)) rfl rfl (pr_assign rfl) ?_
  refine TF.u (v := (.int .i64 _)) rfl rfl (pr_assign rfl) ?_
  refine TF.nil (nx_then ?_)
  refine cw_seq ?_
  -- region 4 law.go:60
  refine cw_region (clf [.U, .U, .X, .U, .U, .U, .U, .U, .U, .U]) [0, 1, 2, 3, 4, 5, 6, 7, 8, 9] rfl (by kernel_rfl) ?_
  refine TF.u (v := (T _)) rfl rfl (pr_move rfl) ?_
  refine TF.u (v := (.int .i64 _)) rfl rfl (pr_move rfl) ?_
  refine TF.call (args := [(T _), (.int .i64 _)]) Try.fn19 rfl rfl (wantF_none rfl) rfl (rtakeText_ok _ _ _ (by omega) (by omega) (by omega)) ?_
  rintro e_ w1 ⟨rfl, hb5⟩
  refine ⟨_, rfl, ?_⟩
  replace H := H.below hb5
  refine TF.u (v := (.tuple _)) rfl rfl (pr_move rfl) ?_
  refine TF.u (v := (T _)) rfl rfl (pr_extract (vs := _) rfl rfl) ?_
  refine TF.u (v := (.int .i64 _)) rfl rfl (pr_extract (vs := _) rfl rfl) ?_
  refine TF.u (v := (.int .i64 _)) rfl rfl (pr_extract (vs := _) rfl rfl) ?_
  refine TF.u (v := (T _)) rfl rfl (pr_assign rfl) ?_
  refine TF.u (v := (.int .i64 _)) rfl rfl (pr_assign rfl) ?_
  refine TF.u (v := (.int .i64 _)) rfl rfl (pr_assign rfl) ?_
  refine TF.nil (nx_then ?_)
  refine cw_seq ?_
  -- region 5 law.go:61
  refine cw_region (clf [.U, .U, .U, .U, .U, .U, .U, .U, .U, .U, .U, .U, .U, .U]) [0, 1, 2, 3, 4, 5, 6, 7, 8, 9, 10, 11, 12, 13] rfl (by kernel_rfl) ?_
  refine TF.u (v := (T _)) rfl rfl (pr_move rfl) ?_
  refine TF.u (v := (T _)) rfl rfl (pr_move rfl) ?_
  refine TF.u (v := (.bool _)) rfl rfl (pr_seql rfl rfl) ?_
  refine TF.u (v := (.bool _)) rfl rfl (pr_move rfl) ?_
  refine TF.split (dj := 31) rfl ?_ (fun hq7 => by
      have hp7 := eF hq7
      exfalso
      first | omega | exact hp7 rfl | exact hp7 (by decide) | (simp at hp7; done))
  intro hq7
  have hp7 := eT hq7
  refine TF.ug (v := (.int .i64 _)) rfl rfl (wantF_yes rfl rfl rfl hq7) (pr_move rfl) ?_
  refine TF.ug (v := (.int .i64 _)) rfl rfl (wantF_yes rfl rfl rfl hq7) (pr_move rfl) ?_
  refine TF.ug (v := (.bool _)) rfl rfl (wantF_yes rfl rfl rfl hq7) (pr_eql rfl rfl) ?_
  refine TF.u (v := (.bool _)) rfl rfl (pr_pickT rfl hq7 rfl) ?_
  refine TF.u (v := (.bool _)) rfl rfl (pr_move rfl) ?_
  refine TF.split (dj := 36) rfl ?_ (fun hq9 => by
      have hp9 := dF hq9
      exfalso
      first | omega | exact hp9 rfl | exact hp9 (by decide) | (simp at hp9; done))
  intro hq9
  have hp9 := dT hq9
  refine TF.ug (v := (.int .i64 _)) rfl rfl (wantF_yes rfl rfl rfl hq9) (pr_move rfl) ?_
  refine TF.ug (v := (.int .i64 _)) rfl rfl (wantF_yes rfl rfl rfl hq9) (pr_move rfl) ?_
  refine TF.ug (v := (.bool _)) rfl rfl (wantF_yes rfl rfl rfl hq9) (pr_eql rfl rfl) ?_
  refine TF.u (v := (.bool _)) rfl rfl (pr_pickT rfl hq9 rfl) ?_
  refine TF.u (v := (.bool _)) rfl rfl (pr_assign rfl) ?_
  refine TF.nil (nx_then ?_)
  refine cw_ret (fin1 (v := (.bool _)) Try.results8 rfl rfl ?_)
  exact ⟨by simp, H.base⟩
end Go.Proofs.Ytkcjgkbcmhgloaa
namespace Go.Proofs.Ytkcjgkbcmhgloaa
open Go.ChangeShapes Go.WideShapes Go.ChangeAt Go.RowKit
open Go.ChangeMaps (open_string shut_string)
theorem packReads_own : ownKnob Try.prog.godebug = none := by kernel_rfl
set_option maxRecDepth 100000 in
theorem packReads_lifted (os : Os) (started : os.Started) (H : Type) (enc : TypeId × Value → H) :
    ReturnsInHanded {} Try.checked os 8 .any (Rows.packReadsSpec.pre6 enc Try.prog Try.f8 Rows.packReadsRow.domain false) (Rows.packReadsSpec.post enc Try.prog Try.f8 false true false false) := by
  refine returnsInHanded_of_change_sized (C := Try.checked) packReads_own started (by kernel_rfl) Try.func8
    (ChangeSpec.witness6 (enc := enc) (C := Try.checked) false ⟨#[], #[.string .empty, .int .i64 0], []⟩ 8 (by kernel_rfl) (by kernel_rfl) (by kernel_rfl) (by kernel_rfl)) ?_
  intro W base args ds gs before hval0 hW hcnd hsz0 _
  have hval : ∀ (j : Nat) t v, Try.f8.params[j]? = some t → args[j]? = some v → Value.okWide Try.prog W .any base t v := hval0
  have hW' := hW
  obtain ⟨p, q, hA0, hV, rfl, hfz, hnd⟩ := hW
  have hA : DataW.TrodAll enc Try.prog W 0 (fun _ => true) true Try.f8.params.toList args.toList ds p := hA0
  have hsz : (DataW.weightsEach Try.prog (Try.f8.params.toList ++ Rows.packReadsSpec.plain.varTypes Try.prog) (ds ++ gs)).all (· ≤ reachBytes) = true := hsz0
  rw [Try.params8] at hA hval hsz
  obtain ⟨v0, vs0, d0, ds0, p0, q0, hargs, rfl, rfl, h0, r0⟩ := trodAll_cons hA
  obtain ⟨v1, vs1, d1, ds1, p1, q1, rfl, rfl, rfl, h1, r1⟩ := trodAll_cons r0
  obtain ⟨rfl, rfl, rfl⟩ := trodAll_nil r1
  obtain rfl : args = #[v0, v1] := by cases args; simp_all
  obtain ⟨rfl, rfl⟩ := trodVars_none hV
  obtain ⟨a0, rfl, rfl, rfl, m0⟩ := open_string Try.underlying9 (hval 0 9 v0 rfl rfl) h0
  have z0 : a0.data.toList.length ≤ 140737488351232 := sized_string hsz (j := 0) rfl rfl
  obtain ⟨a1, rfl, rfl, rfl, m1⟩ := open_int Try.underlying3 (hval 1 3 v1 rfl rfl) h1
  have z1 := bounds_i64 m1
  clear hA0 hval0
  refine (PackReads_ok a0.data.toList a1 W z0 z1.1 z1.2).mono fun e W' ⟨he, bel⟩ => ?_
  subst he
  exact ⟨_, rfl, _, _, _, [], _, [], hW', trodAll_mk1 (shut_bool Try.underlying4 _), (trodAll_cons_mk (shut_string Try.underlying9 m0) (trodAll_cons_mk (shut_int Try.underlying3 m1) trodAll_mk0)), rfl, bel.frame _, fun h => by cases h⟩
theorem packReads_holds : Rows.PackReadsSaid :=
  OpenClaim.holds_of_wide 8 Try.f8 rfl rfl rfl rfl rfl rfl rfl ⟨rfl, rfl, rfl, rfl, rfl⟩ rfl rfl rfl rfl rfl (by kernel_rfl) Try.func8 (by kernel_rfl)
    (of_decide_eq_true (by kernel_rfl)) (by unfold Func.isWrapper; first | (rw [if_pos (by decide +kernel)]; kernel_rfl) | (rw [if_neg (by decide +kernel)]; exact ⟨rfl, rfl⟩))
    (fun os started H enc _ => packReads_lifted os started H enc)
end Go.Proofs.Ytkcjgkbcmhgloaa
