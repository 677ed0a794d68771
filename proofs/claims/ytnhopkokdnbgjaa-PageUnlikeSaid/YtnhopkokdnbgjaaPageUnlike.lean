/- The given statement Rows.PageUnlikeSaid: quayside/quaysidelaw04.PageUnlike returns true for all arguments, and leaves its arguments as they were. No further condition. -/
import Derived.Test.YtnhopkokdnbgjaaFns3
import Derived.Test.YtnhopkokdnbgjaaRows
import Derived.Test.YtnhopkokdnbgjaaPage2
import Derived.Test.YtnhopkokdnbgjaaArgsP
import Derived.Test.YtnhopkokdnbgjaaPage3
import Derived.Test.YtnhopkokdnbgjaaArgs
import Derived.WalkKit
import Derived.ProofKit
import Derived.OpenShut
import Derived.ShutString
import Derived.ChangeOld
import Derived.Below
import Derived.SizedLaws
import Derived.JoinedCond
set_option linter.unusedSimpArgs false
set_option linter.unusedVariables false
set_option maxRecDepth 10000
namespace Go.Proofs.Ytnhopkokdnbgjaa
open Go.Q Go.RowKit Go.Proofs
theorem Try.fn10 : Fnc Try.prog 10 Try.f10 := ⟨Try.func10, by kernel_rfl, by kernel_rfl⟩
theorem PageUnlike_ok (id : Int) (other : Int) (p : PG) (q : PG) (w0 : World) (hid1 : -9223372036854775808 ≤ id) (hid2 : id ≤ 9223372036854775807) (hother1 : -9223372036854775808 ≤ other) (hother2 : other ≤ 9223372036854775807) (ok_p : POk p) (ok_q : POk q) :
    Calls Try.prog 4 #[.int .i64 id, .int .i64 other, .agg ⟨pgV p⟩, .agg ⟨pgV q⟩] w0 fun e w => e = .returned (.bool true) ∧ Below w0.heap.size w0 w := by
  refine enter (args := [.int .i64 id, .int .i64 other, .agg ⟨pgV p⟩, .agg ⟨pgV q⟩]) Try.func4 rfl Try.ntmps4 rfl ?_
  have H := Sat.start w0
  refine cw_seq ?_
  -- region 0 law.go:72
  refine cw_region (clf [.X, .X, .U]) [0, 1, 2] rfl (by kernel_rfl) (by decide) ?_
  refine TF.box (v := (.agg ⟨pgV p⟩)) H rfl (Cx.xx rfl) (wantF_none rfl) rfl rfl ?_
  clear H
  intro bk1 w hltbk1 hb2 H
  refine TF.box (v := (.agg ⟨pgV q⟩)) H rfl (Cx.xx rfl) (wantF_none rfl) rfl rfl ?_
  clear H
  intro bk3 w hltbk3 hb4 H
  refine TF.u (v := (.bool _)) rfl rfl (pr_assign rfl) ?_
  refine TF.nil (nx_then ?_)
  refine cw_seq ?_
  refine cw_seq ?_
  -- region 1 law.go:73
  refine cw_region (clf [.X, .U]) [0, 1] rfl (by kernel_rfl) (by decide) ?_
  refine TF.call (args := []) Try.fn10 rfl rfl (wantF_none rfl) rfl (awake_ok _) ?_
  rintro e_ w ⟨rfl, hb5⟩
  refine ⟨_, rfl, ?_⟩
  replace H := H.below hb5
  refine TF.u (v := (.bool _)) rfl rfl (pr_not rfl) ?_
  refine TF.nil (nx_then ?_)
  refine cw_condF (t := _) rfl rfl rfl ?_
  refine cw_skip (nx_then ?_)
  refine cw_seq ?_
  -- region 3 law.go:76
  refine cw_region (clf [.U, .X, .X, .U, .U, .U, .U, .U]) [0, 1, 2, 3, 4, 5, 6, 7] rfl (by kernel_rfl) (by decide) ?_
  refine TF.u (v := (.int .i64 _)) rfl rfl (pr_move rfl) ?_
  refine TF.loadE (cs' := pgV p) rfl rfl (wantF_none rfl) (Try.ty27.s) rfl rfl (H.blk (k := 1) rfl) (pgV_len ok_p.len) (pgV_all ok_p.len) ?_
  refine TF.call (args := [(.int .i64 _), (.agg ⟨pgV p⟩)]) Try.fn11 rfl rfl (wantF_none rfl) rfl (encode_ok _ p ok_p _ (by omega) (by omega)) ?_
  rintro e_ w ⟨A6, n6, c6, rfl, hn6⟩
  refine ⟨_, rfl, ?_⟩
  replace H := H.newS hn6
  refine TF.u (v := (.tuple _)) rfl rfl (pr_move rfl) ?_
  refine TF.u (v := (.slice _ _ _)) rfl rfl (pr_extract (vs := _) rfl rfl) ?_
  refine TF.u (v := (.int .i64 _)) rfl rfl (pr_extract (vs := _) rfl rfl) ?_
  refine TF.u (v := (.slice _ _ _)) rfl rfl (pr_assign rfl) ?_
  refine TF.u (v := (.int .i64 _)) rfl rfl (pr_assign rfl) ?_
  refine TF.nil (nx_then ?_)
  refine cw_seq ?_
  -- region 4 law.go:77
  refine cw_region (clf [.U, .X, .X, .U, .U, .U, .U, .U]) [0, 1, 2, 3, 4, 5, 6, 7] rfl (by kernel_rfl) (by decide) ?_
  refine TF.u (v := (.int .i64 _)) rfl rfl (pr_move rfl) ?_
  refine TF.loadE (cs' := pgV q) rfl rfl (wantF_none rfl) (Try.ty27.s) rfl rfl (H.blk (k := 1) rfl) (pgV_len ok_q.len) (pgV_all ok_q.len) ?_
  refine TF.call (args := [(.int .i64 _), (.agg ⟨pgV q⟩)]) Try.fn11 rfl rfl (wantF_none rfl) rfl (encode_ok _ q ok_q _ (by omega) (by omega)) ?_
  rintro e_ w ⟨A8, n8, c8, rfl, hn8⟩
  refine ⟨_, rfl, ?_⟩
  replace H := H.newS hn8
  refine TF.u (v := (.tuple _)) rfl rfl (pr_move rfl) ?_
  refine TF.u (v := (.slice _ _ _)) rfl rfl (pr_extract (vs := _) rfl rfl) ?_
  refine TF.u (v := (.int .i64 _)) rfl rfl (pr_extract (vs := _) rfl rfl) ?_
  refine TF.u (v := (.slice _ _ _)) rfl rfl (pr_assign rfl) ?_
  refine TF.u (v := (.int .i64 _)) rfl rfl (pr_assign rfl) ?_
  refine TF.nil (nx_then ?_)
  refine cw_seq ?_
  refine cw_seq ?_
  -- region 5 law.go:78
  refine cw_region (clf [.U, .U, .U, .U, .U, .U]) [0, 1, 2, 3, 4, 5] rfl (by kernel_rfl) (by decide) ?_
  refine TF.u (v := (.int .i64 _)) rfl rfl (pr_move rfl) ?_
  refine TF.u (v := (.bool _)) rfl rfl (pr_neq rfl rfl) ?_
  refine TF.u (v := (.bool _)) rfl rfl (pr_move rfl) ?_
  refine TF.split (dj := 29) rfl (fun hq11 => ?_) (fun hq11 => ?_)
  ·
    have hp11 := dF (nT hq11)
    refine TF.skip rfl (wantF_no rfl rfl rfl hq11) ?_
    refine TF.skip rfl (wantF_no rfl rfl rfl hq11) ?_
    refine TF.u (v := (.bool _)) rfl rfl (pr_pickT rfl hq11 rfl) ?_
    refine TF.nil (nx_then ?_)
    refine cw_condT (t := _) rfl rfl rfl ?_
    refine cw_seq ?_
    -- region 6 law.go:79
    refine cw_region (clf [.U]) [0] rfl (by kernel_rfl) (by decide) ?_
    refine TF.u (v := (.bool _)) rfl rfl (pr_assign rfl) ?_
    refine TF.nil (nx_then ?_)
    refine cw_ret (rt_then (fin1 (v := (.bool _)) Try.results4 rfl rfl ?_))
    exact ⟨by simp, H.base⟩
  ·
    have hp11 := dT (nF hq11)
    refine TF.ug (v := (.int .i64 _)) rfl rfl (wantF_yes rfl rfl rfl hq11) (pr_move rfl) ?_
    refine TF.ug (v := (.bool _)) rfl rfl (wantF_yes rfl rfl rfl hq11) (pr_neq rfl rfl) ?_
    refine TF.u (v := (.bool _)) rfl rfl (pr_pickF rfl hq11 rfl) ?_
    refine TF.nil (nx_then ?_)
    refine cw_cond _ rfl rfl (fun hq13 => ?_) (fun hq13 => ?_)
    ·
      have hp13 := dF (nT hq13)
      refine cw_seq ?_
      -- region 6 law.go:79
      refine cw_region (clf [.U]) [0] rfl (by kernel_rfl) (by decide) ?_
      refine TF.u (v := (.bool _)) rfl rfl (pr_assign rfl) ?_
      refine TF.nil (nx_then ?_)
      refine cw_ret (rt_then (fin1 (v := (.bool _)) Try.results4 rfl rfl ?_))
      exact ⟨by simp, H.base⟩
    ·
      have hp13 := dT (nF hq13)
      refine cw_skip (nx_then ?_)
      refine cw_seq ?_
      -- region 7 law.go:81
      refine cw_drawS H Try.wide_ (clf [.U, .R, .U, .R, .U, .U, .U, .U, .U, .R, .R, .U, .U, .U, .U]) [0, 1, 2, 3, 4, 5, 6, 7, 8, 9, 10, 11, 12, 13, 14] (by kernel_rfl) (by kernel_rfl) ?_
      clear H
      intro w hbr H hB
      have hu := unlike ok_p.len ok_q.len (by assumption) (by assumption)
      refine TF.u (v := (.slice _ _ _)) rfl rfl (pr_move rfl) ?_
      refine TF.tostrr (RdS.all (H.rd (k := 1) rfl)) rfl rfl (wantF_none rfl) Try.underlying29 Try.underlying5 Try.underlying9 rfl ?_
      refine TF.u (v := (.slice _ _ _)) rfl rfl (pr_move rfl) ?_
      refine TF.tostrr (RdS.all (H.rd (k := 0) rfl)) rfl rfl (wantF_none rfl) Try.underlying29 Try.underlying5 Try.underlying9 rfl ?_
      refine TF.u (v := (.bool _)) rfl rfl (pr_seql rfl rfl) ?_
      refine TF.u (v := (.int .i64 _)) rfl rfl (pr_move rfl) ?_
      refine TF.u (v := (.int .i64 _)) rfl rfl (pr_move rfl) ?_
      refine TF.u (v := (.bool _)) rfl rfl (pr_eql rfl rfl) ?_
      refine TF.u (v := (.bool _)) rfl rfl (pr_move rfl) ?_
      refine TF.split (dj := 41) rfl (fun hq16 => ?_) (fun hq16 => ?_)
      ·
        have hp16 := dT hq16
        refine TF.loadEr (cs' := pgV p) rfl rfl (wantF_yes rfl rfl rfl hq16) (Try.ty27.s) rfl rfl (H.blk (k := 3) rfl) (pgV_len ok_p.len) (pgV_all ok_p.len) (fun _ h => h) ?_
        refine TF.loadEr (cs' := pgV q) rfl rfl (wantF_yes rfl rfl rfl hq16) (Try.ty27.s) rfl rfl (H.blk (k := 2) rfl) (pgV_len ok_q.len) (pgV_all ok_q.len) (fun _ h => h) ?_
        refine TF.ug (v := (.bool _)) rfl rfl (wantF_yes rfl rfl rfl hq16) (run_eqlA (xs := pgV p) (ys := pgV q) (EqV.page Try.underlying27 (by kernel_rfl) rfl rfl Try.underlying24 rfl (by kernel_rfl) rfl ok_p.len ok_q.len) (by decide) (by kernel_rfl) rfl rfl) ?_
        refine TF.u (v := (.bool _)) rfl rfl (pr_pickT rfl hq16 rfl) ?_
        refine TF.u (v := (.bool _)) rfl rfl (pr_beql Try.underlying4 rfl rfl) ?_
        refine TF.u (v := (.bool _)) rfl rfl (pr_assign rfl) ?_
        clear hB
        refine TF.nil (nx_then ?_)
        refine cw_ret (fin1 (v := (.bool _)) Try.results4 rfl rfl ?_)
        exact ⟨bool_end (by rw [hu]; first | (simp; assumption) | (simp_all; done)), H.base⟩
      ·
        have hp16 := dF hq16
        refine TF.skip rfl (wantF_no rfl rfl rfl hq16) ?_
        refine TF.skip rfl (wantF_no rfl rfl rfl hq16) ?_
        refine TF.skip rfl (wantF_no rfl rfl rfl hq16) ?_
        refine TF.u (v := (.bool _)) rfl rfl (pr_pickF rfl hq16 rfl) ?_
        refine TF.u (v := (.bool _)) rfl rfl (pr_beql Try.underlying4 rfl rfl) ?_
        refine TF.u (v := (.bool _)) rfl rfl (pr_assign rfl) ?_
        clear hB
        refine TF.nil (nx_then ?_)
        refine cw_ret (fin1 (v := (.bool _)) Try.results4 rfl rfl ?_)
        exact ⟨bool_end (by rw [hu]; first | (simp; assumption) | (simp_all; done)), H.base⟩
end Go.Proofs.Ytnhopkokdnbgjaa
namespace Go.Proofs.Ytnhopkokdnbgjaa
open Go.ChangeShapes Go.WideShapes Go.ChangeAt Go.RowKit
open Go.ChangeMaps (open_string shut_string)
theorem pageUnlike_own : ownKnob Try.prog.godebug = none := by kernel_rfl
theorem pageUnlike_laid : laidOutB Try.prog = true := by kernel_rfl
set_option maxRecDepth 100000 in
theorem pageUnlike_lifted (os : Os) (started : os.Started) (H : Type) (enc : TypeId × Value → H) :
    ReturnsInHanded {} Try.checked os 4 .any (Rows.pageUnlikeSpec.pre6 enc Try.prog Try.f4 Rows.pageUnlikeRow.domain false) (Rows.pageUnlikeSpec.post enc Try.prog Try.f4 false true false false) := by
  refine returnsInHanded_of_change_sized (C := Try.checked) pageUnlike_own started (by kernel_rfl) Try.func4
    (ChangeSpec.witness6 (enc := enc) (C := Try.checked) false ⟨#[], #[.int .i64 0, .int .i64 0, .agg #[(.int .u64 0), (.bool false), (.string ⟨⟨[]⟩⟩), (.bool false), (.string ⟨⟨[]⟩⟩), (.bool false), (.string ⟨⟨[]⟩⟩), (.bool false), (.string ⟨⟨[]⟩⟩), (.bool false), (.string ⟨⟨[]⟩⟩), (.bool false), (.string ⟨⟨[]⟩⟩), (.bool false), (.string ⟨⟨[]⟩⟩), (.bool false), (.string ⟨⟨[]⟩⟩)], .agg #[(.int .u64 0), (.bool false), (.string ⟨⟨[]⟩⟩), (.bool false), (.string ⟨⟨[]⟩⟩), (.bool false), (.string ⟨⟨[]⟩⟩), (.bool false), (.string ⟨⟨[]⟩⟩), (.bool false), (.string ⟨⟨[]⟩⟩), (.bool false), (.string ⟨⟨[]⟩⟩), (.bool false), (.string ⟨⟨[]⟩⟩), (.bool false), (.string ⟨⟨[]⟩⟩)]], []⟩ 8 (by kernel_rfl) (by kernel_rfl) (by kernel_rfl) (by kernel_rfl)) ?_
  intro W base args ds gs before hval0 hW hcnd hsz0 _
  have hval : ∀ (j : Nat) t v, Try.f4.params[j]? = some t → args[j]? = some v → Value.okWide Try.prog W .any base t v := hval0
  have hW' := hW
  obtain ⟨p, q, hA0, hV, rfl, hfz, hnd⟩ := hW
  have hA : DataW.TrodAll enc Try.prog W 0 (fun _ => true) true Try.f4.params.toList args.toList ds p := hA0
  have hsz : (DataW.weightsEach Try.prog (Try.f4.params.toList ++ Rows.pageUnlikeSpec.plain.varTypes Try.prog) (ds ++ gs)).all (· ≤ reachBytes) = true := hsz0
  rw [Try.params4] at hA hval hsz
  obtain ⟨v0, vs0, d0, ds0, p0, q0, hargs, rfl, rfl, h0, r0⟩ := trodAll_cons hA
  obtain ⟨v1, vs1, d1, ds1, p1, q1, rfl, rfl, rfl, h1, r1⟩ := trodAll_cons r0
  obtain ⟨v2, vs2, d2, ds2, p2, q2, rfl, rfl, rfl, h2, r2⟩ := trodAll_cons r1
  obtain ⟨v3, vs3, d3, ds3, p3, q3, rfl, rfl, rfl, h3, r3⟩ := trodAll_cons r2
  obtain ⟨rfl, rfl, rfl⟩ := trodAll_nil r3
  obtain rfl : args = #[v0, v1, v2, v3] := by cases args; simp_all
  obtain ⟨rfl, rfl⟩ := trodVars_none hV
  obtain ⟨a0, rfl, rfl, rfl, m0⟩ := open_int Try.underlying3 (hval 0 3 v0 rfl rfl) h0
  have z0 := bounds_i64 m0
  obtain ⟨a1, rfl, rfl, rfl, m1⟩ := open_int Try.underlying3 (hval 1 3 v1 rfl rfl) h1
  have z1 := bounds_i64 m1
  have k2 := h2
  have lt2 : ∀ x ∈ p2, x.block < W.heap.size := by obtain ⟨m, hm⟩ := k2; exact DataW.trod_lt m _ _ _ hm
  obtain ⟨fu2, hf2⟩ := h2
  obtain ⟨⟨l2⟩, rfl, hc2⟩ := okWide_struct Try.underlying27 (hval 2 27 v2 rfl rfl)
  obtain ⟨a2, hl2, ok2⟩ := Go.Q.OT.page (P := Try.prog) (t := 27) (cs := l2) ⟨fu2, _, hf2⟩ Try.underlying27 rfl Try.underlying22 Try.underlying25 Try.underlying24 rfl Try.underlying4 Try.underlying9 (by kernel_rfl)
  subst hl2
  have k3 := h3
  have lt3 : ∀ x ∈ p3, x.block < W.heap.size := by obtain ⟨m, hm⟩ := k3; exact DataW.trod_lt m _ _ _ hm
  obtain ⟨fu3, hf3⟩ := h3
  obtain ⟨⟨l3⟩, rfl, hc3⟩ := okWide_struct Try.underlying27 (hval 3 27 v3 rfl rfl)
  obtain ⟨a3, hl3, ok3⟩ := Go.Q.OT.page (P := Try.prog) (t := 27) (cs := l3) ⟨fu3, _, hf3⟩ Try.underlying27 rfl Try.underlying22 Try.underlying25 Try.underlying24 rfl Try.underlying4 Try.underlying9 (by kernel_rfl)
  subst hl3
  clear hA0 hval0
  refine (PageUnlike_ok a0 a1 a2 a3 W z0.1 z0.2 z1.1 z1.2 ok2 ok3).mono fun e W' ⟨he, bel⟩ => ?_
  subst he
  exact ⟨_, rfl, _, _, _, [], _, [], hW', trodAll_mk1 (shut_bool Try.underlying4 _), (trodAll_cons_mk (shut_int Try.underlying3 m0) (trodAll_cons_mk (shut_int Try.underlying3 m1) (trodAll_cons_mk (Below.trod pageUnlike_laid (by kernel_rfl) (of_decide_eq_true (by kernel_rfl)) k2 bel lt2) (trodAll_cons_mk (Below.trod pageUnlike_laid (by kernel_rfl) (of_decide_eq_true (by kernel_rfl)) k3 bel lt3) trodAll_mk0)))), rfl, bel.frame _, fun h => by cases h⟩
theorem pageUnlike_holds : Rows.PageUnlikeSaid :=
  OpenClaim.holds_of_wide 4 Try.f4 rfl rfl rfl rfl rfl rfl rfl ⟨rfl, rfl, rfl, rfl, rfl⟩ rfl rfl rfl rfl rfl (by kernel_rfl) Try.func4 (by kernel_rfl)
    (of_decide_eq_true (by kernel_rfl)) (by unfold Func.isWrapper; first | (rw [if_pos (by decide +kernel)]; kernel_rfl) | (rw [if_neg (by decide +kernel)]; exact ⟨rfl, rfl⟩))
    (fun os started H enc _ => pageUnlike_lifted os started H enc)
end Go.Proofs.Ytnhopkokdnbgjaa
