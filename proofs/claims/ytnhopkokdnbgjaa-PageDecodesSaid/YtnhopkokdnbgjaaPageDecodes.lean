/- The given statement Rows.PageDecodesSaid: quayside/quaysidelaw04.PageDecodes returns true for all arguments, and leaves its arguments as they were. No further condition. -/
import Derived.Test.YtnhopkokdnbgjaaFns3
import Derived.Test.YtnhopkokdnbgjaaRows
import Derived.Test.YtnhopkokdnbgjaaPage2
import Derived.Test.YtnhopkokdnbgjaaArgsP
import Derived.Test.YtnhopkokdnbgjaaPage3
import Derived.Test.YtnhopkokdnbgjaaArgs
import Derived.WalkKit
import Derived.ProofKit
import Derived.OpenShut
import Derived.ShutString
import Derived.ChangeOld
import Derived.Below
import Derived.SizedLaws
import Derived.JoinedCond
set_option linter.unusedSimpArgs false
set_option linter.unusedVariables false
set_option maxRecDepth 10000
namespace Go.Proofs.Ytnhopkokdnbgjaa
open Go.Q Go.RowKit Go.Proofs
theorem Try.fn10 : Fnc Try.prog 10 Try.f10 := ⟨Try.func10, by kernel_rfl, by kernel_rfl⟩
theorem Try.fn15 : Fnc Try.prog 15 Try.f15 := ⟨Try.func15, by kernel_rfl, by kernel_rfl⟩
theorem Try.fn16 : Fnc Try.prog 16 Try.f16 := ⟨Try.func16, by kernel_rfl, by kernel_rfl⟩
theorem Try.fn18 : Fnc Try.prog 18 Try.f18 := ⟨Try.func18, by kernel_rfl, by kernel_rfl⟩
theorem PageDecodes_ok (id : Int) (b : List UInt8) (w0 : World) (hid1 : -9223372036854775808 ≤ id) (hid2 : id ≤ 9223372036854775807) (hb : b.length ≤ 140737488351232) :
    Calls Try.prog 5 #[.int .i64 id, T b] w0 fun e w => e = .returned (.bool true) ∧ Below w0.heap.size w0 w := by
  refine enter (args := [.int .i64 id, T b]) Try.func5 rfl Try.ntmps5 rfl ?_
  have H := Sat.start w0
  refine cw_seq ?_
  -- region 0 law.go:27
  refine cw_region (clf [.U]) [0] rfl (by kernel_rfl) (by decide) ?_
  refine TF.u (v := (.bool _)) rfl rfl (pr_assign rfl) ?_
  refine TF.nil (nx_then ?_)
  refine cw_seq ?_
  refine cw_seq ?_
  -- region 1 law.go:28
  refine cw_region (clf [.X, .U]) [0, 1] rfl (by kernel_rfl) (by decide) ?_
  refine TF.call (args := []) Try.fn10 rfl rfl (wantF_none rfl) rfl (awake_ok _) ?_
  rintro e_ w ⟨rfl, hb1⟩
  refine ⟨_, rfl, ?_⟩
  replace H := H.below hb1
  refine TF.u (v := (.bool _)) rfl rfl (pr_not rfl) ?_
  refine TF.nil (nx_then ?_)
  refine cw_condF (t := _) rfl rfl rfl ?_
  refine cw_skip (nx_then ?_)
  refine cw_seq ?_
  -- region 3 law.go:31
  refine cw_region (clf [.U, .U, .X, .X, .U, .U, .U, .X, .X, .U]) [0, 1, 2, 3, 4, 5, 6, 7, 8, 9] rfl (by kernel_rfl) (by decide) ?_
  refine TF.u (v := (.int .i64 _)) rfl rfl (pr_move rfl) ?_
  refine TF.u (v := (T _)) rfl rfl (pr_move rfl) ?_
  refine TF.tobytes H rfl (Cx.xx rfl) (wantF_none rfl) Try.underlying9 Try.underlying29 Try.underlying5 rfl (by unfold maxLen; first | omega | (simp only [List.length_append]; omega)) ?_
  clear H
  intro Aow2 cow2 w hcapow2 hb3 H
  refine TF.call (args := [(.int .i64 _), (.slice _ _ _)]) Try.fn15 rfl rfl (wantF_none rfl) rfl (decode_ok _ _ _ _ _ _ (H.rd (k := 0) rfl) (by omega) (by omega) (by omega)) ?_
  rintro e_ w ⟨rfl, hb4⟩
  refine ⟨_, rfl, ?_⟩
  replace H := H.below hb4
  refine TF.u (v := (.tuple _)) rfl rfl (pr_move rfl) ?_
  refine TF.u (v := (.agg ⟨pgV ((decS id b).1)⟩)) rfl rfl (pr_extract (vs := _) rfl rfl) ?_
  refine TF.u (v := (.int .i64 _)) rfl rfl (pr_extract (vs := _) rfl rfl) ?_
  refine TF.alloc H rfl (Cx.xx rfl) (wantF_none rfl) (Try.ty27) rfl ?_
  clear H
  intro bk5 w hltbk5 hb6 H
  replace H : Sat _ _ _ (cBlk _ _ (pgV noPg) :: _) := H
  replace H : Sat _ _ _ [_, _] := H
  refine TF.storeN (q := 0) (cs' := pgV ((decS id b).1)) H rfl rfl rfl (wantF_none rfl) (Try.ty27.s) rfl rfl (pgV_len (decS_ok id b).len) (pgV_one _) (by have h_ : (pgV noPg).length = 17 := (pgV_len noPg_ok.len); omega) (store_all (pgV_len noPg_ok.len)) ?_
  clear H
  intro w ho7 H
  replace H : Sat _ _ _ [_, _] := H
  refine TF.u (v := (.int .i64 _)) rfl rfl (pr_assign rfl) ?_
  refine TF.nil (nx_then ?_)
  refine cw_seq ?_
  -- region 4 law.go:32
  refine cw_region (clf [.U, .U, .X, .U, .U, .U, .X, .X, .U]) [0, 1, 2, 3, 4, 5, 6, 7, 8] rfl (by kernel_rfl) (by decide) ?_
  refine TF.u (v := (.int .i64 _)) rfl rfl (pr_move rfl) ?_
  refine TF.u (v := (T _)) rfl rfl (pr_move rfl) ?_
  refine TF.call (args := [(.int .i64 _), (T _)]) Try.fn16 rfl rfl (wantF_none rfl) rfl (rdecode_ok _ _ _ (by omega) (by omega) (by omega)) ?_
  rintro e_ w ⟨rfl, hb8⟩
  refine ⟨_, rfl, ?_⟩
  replace H := H.below hb8
  refine TF.u (v := (.tuple _)) rfl rfl (pr_move rfl) ?_
  refine TF.u (v := (.agg ⟨pgV ((decS id b).1)⟩)) rfl rfl (pr_extract (vs := _) rfl rfl) ?_
  refine TF.u (v := (.int .i64 _)) rfl rfl (pr_extract (vs := _) rfl rfl) ?_
  refine TF.alloc H rfl (Cx.xx rfl) (wantF_none rfl) (Try.ty27) rfl ?_
  clear H
  intro bk9 w hltbk9 hb10 H
  replace H : Sat _ _ _ (cBlk _ _ (pgV noPg) :: _) := H
  replace H : Sat _ _ _ [_, _, _] := H
  refine TF.storeN (q := 0) (cs' := pgV ((decS id b).1)) H rfl rfl rfl (wantF_none rfl) (Try.ty27.s) rfl rfl (pgV_len (decS_ok id b).len) (pgV_one _) (by have h_ : (pgV noPg).length = 17 := (pgV_len noPg_ok.len); omega) (store_all (pgV_len noPg_ok.len)) ?_
  clear H
  intro w ho11 H
  replace H : Sat _ _ _ [_, _, _] := H
  refine TF.u (v := (.int .i64 _)) rfl rfl (pr_assign rfl) ?_
  refine TF.nil (nx_then ?_)
  refine cw_seq ?_
  -- region 5 law.go:33
  refine cw_region (clf [.U, .X, .X, .U, .U, .U, .U, .U]) [0, 1, 2, 3, 4, 5, 6, 7] rfl (by kernel_rfl) (by decide) ?_
  refine TF.u (v := (T _)) rfl rfl (pr_move rfl) ?_
  refine TF.tobytes H rfl (Cx.xx rfl) (wantF_none rfl) Try.underlying9 Try.underlying29 Try.underlying5 rfl (by unfold maxLen; first | omega | (simp only [List.length_append]; omega)) ?_
  clear H
  intro Aow12 cow12 w hcapow12 hb13 H
  refine TF.call (args := [(.slice _ _ _)]) Try.fn17 rfl rfl (wantF_none rfl) rfl (pstamp_ok _ _ _ _ _ (H.rd (k := 0) rfl) (by omega)) ?_
  rintro e_ w ⟨rfl, hb14⟩
  refine ⟨_, rfl, ?_⟩
  replace H := H.below hb14
  refine TF.u (v := (.tuple _)) rfl rfl (pr_move rfl) ?_
  refine TF.u (v := (.int .u64 _)) rfl rfl (pr_extract (vs := _) rfl rfl) ?_
  refine TF.u (v := (.bool _)) rfl rfl (pr_extract (vs := _) rfl rfl) ?_
  refine TF.u (v := (.int .u64 _)) rfl rfl (pr_assign rfl) ?_
  refine TF.u (v := (.bool _)) rfl rfl (pr_assign rfl) ?_
  refine TF.nil (nx_then ?_)
  refine cw_seq ?_
  -- region 6 law.go:34
  refine cw_region (clf [.U, .X, .U, .U, .U, .U, .U]) [0, 1, 2, 3, 4, 5, 6] rfl (by kernel_rfl) (by decide) ?_
  refine TF.u (v := (T _)) rfl rfl (pr_move rfl) ?_
  refine TF.call (args := [(T _)]) Try.fn18 rfl rfl (wantF_none rfl) rfl (rstamp_ok _ _) ?_
  rintro e_ w ⟨rfl, hb16⟩
  refine ⟨_, rfl, ?_⟩
  replace H := H.below hb16
  refine TF.u (v := (.tuple _)) rfl rfl (pr_move rfl) ?_
  refine TF.u (v := (.int .u64 _)) rfl rfl (pr_extract (vs := _) rfl rfl) ?_
  refine TF.u (v := (.bool _)) rfl rfl (pr_extract (vs := _) rfl rfl) ?_
  refine TF.u (v := (.int .u64 _)) rfl rfl (pr_assign rfl) ?_
  refine TF.u (v := (.bool _)) rfl rfl (pr_assign rfl) ?_
  refine TF.nil (nx_then ?_)
  refine cw_seq ?_
  -- region 7 law.go:35
  refine cw_region (clf [.X, .X, .U, .U, .U, .U, .U, .U, .U, .U, .U, .U, .U, .U, .U, .U, .U, .U, .U, .U, .X, .X, .U, .X, .U, .U, .U]) [0, 1, 2, 3, 4, 5, 6, 7, 8, 9, 10, 11, 12, 13, 14, 15, 16, 17, 18, 19, 20, 21, 22, 23, 24, 25, 26] rfl (by kernel_rfl) (by decide) ?_
  refine TF.loadE (cs' := pgV ((decS id b).1)) rfl rfl (wantF_none rfl) (Try.ty27.s) rfl rfl (H.blk (k := 2) rfl) (pgV_len (decS_ok id b).len) (pgV_all (decS_ok id b).len) ?_
  refine TF.loadE (cs' := pgV ((decS id b).1)) rfl rfl (wantF_none rfl) (Try.ty27.s) rfl rfl (H.blk (k := 1) rfl) (pgV_len (decS_ok id b).len) (pgV_all (decS_ok id b).len) ?_
  refine TF.u (v := (.bool _)) rfl rfl (run_eqlA (xs := pgV ((decS id b).1)) (ys := pgV ((decS id b).1)) (EqV.page Try.underlying27 (by kernel_rfl) rfl rfl Try.underlying24 rfl (by kernel_rfl) rfl (decS_ok id b).len (decS_ok id b).len) (by decide) (by kernel_rfl) rfl rfl) ?_
  refine TF.u (v := (.bool _)) rfl rfl (pr_move rfl) ?_
  refine TF.split (dj := 42) rfl ?_ (fun hq19 => by
      have hp19 := dF hq19
      exfalso
      first | omega | exact hp19 rfl | exact hp19 (by decide) | (simp at hp19; done))
  intro hq19
  have hp19 := dT hq19
  refine TF.ug (v := (.int .i64 _)) rfl rfl (wantF_yes rfl rfl rfl hq19) (pr_move rfl) ?_
  refine TF.ug (v := (.int .i64 _)) rfl rfl (wantF_yes rfl rfl rfl hq19) (pr_move rfl) ?_
  refine TF.ug (v := (.bool _)) rfl rfl (wantF_yes rfl rfl rfl hq19) (pr_eql rfl rfl) ?_
  refine TF.u (v := (.bool _)) rfl rfl (pr_pickT rfl hq19 rfl) ?_
  refine TF.u (v := (.bool _)) rfl rfl (pr_move rfl) ?_
  refine TF.split (dj := 47) rfl ?_ (fun hq21 => by
      have hp21 := dF hq21
      exfalso
      first | omega | exact hp21 rfl | exact hp21 (by decide) | (simp at hp21; done))
  intro hq21
  have hp21 := dT hq21
  refine TF.ug (v := (.int .u64 _)) rfl rfl (wantF_yes rfl rfl rfl hq21) (pr_move rfl) ?_
  refine TF.ug (v := (.int .u64 _)) rfl rfl (wantF_yes rfl rfl rfl hq21) (pr_move rfl) ?_
  refine TF.ug (v := (.bool _)) rfl rfl (wantF_yes rfl rfl rfl hq21) (pr_eql rfl rfl) ?_
  refine TF.u (v := (.bool _)) rfl rfl (pr_pickT rfl hq21 rfl) ?_
  refine TF.u (v := (.bool _)) rfl rfl (pr_move rfl) ?_
  refine TF.split (dj := 52) rfl ?_ (fun hq23 => by
      have hp23 := dF hq23
      exfalso
      first | omega | exact hp23 rfl | exact hp23 (by decide) | (simp at hp23; done))
  intro hq23
  have hp23 := dT hq23
  refine TF.ug (v := (.bool _)) rfl rfl (wantF_yes rfl rfl rfl hq23) (pr_move rfl) ?_
  refine TF.ug (v := (.bool _)) rfl rfl (wantF_yes rfl rfl rfl hq23) (pr_move rfl) ?_
  refine TF.ug (v := (.bool _)) rfl rfl (wantF_yes rfl rfl rfl hq23) (pr_beql Try.underlying4 rfl rfl) ?_
  refine TF.u (v := (.bool _)) rfl rfl (pr_pickT rfl hq23 rfl) ?_
  refine TF.u (v := (.bool _)) rfl rfl (pr_move rfl) ?_
  refine TF.split (dj := 57) rfl ?_ (fun hq25 => by
      have hp25 := hq25
      exfalso
      first | omega | exact hp25 rfl | exact hp25 (by decide) | (simp at hp25; done))
  intro hq25
  have hp25 := hq25
  refine TF.ug (v := (T _)) rfl rfl (wantF_yes rfl rfl rfl hq25) (pr_move rfl) ?_
  refine TF.tobytes H rfl (Cx.xx rfl) (wantF_yes rfl rfl rfl hq25) Try.underlying9 Try.underlying29 Try.underlying5 rfl (by unfold maxLen; first | omega | (simp only [List.length_append]; omega)) ?_
  clear H
  intro Aow26 cow26 w hcapow26 hb27 H
  refine TF.call (args := [(.slice _ _ _)]) Try.fn19 rfl rfl (wantF_yes rfl rfl rfl hq25) rfl (ptorn_ok _ _ _ _ _ (H.rd (k := 0) rfl)) ?_
  rintro e_ w ⟨rfl, hb28⟩
  refine ⟨_, rfl, ?_⟩
  replace H := H.below hb28
  refine TF.ug (v := (T _)) rfl rfl (wantF_yes rfl rfl rfl hq25) (pr_move rfl) ?_
  refine TF.call (args := [(T _)]) Try.fn20 rfl rfl (wantF_yes rfl rfl rfl hq25) rfl (rtorn_ok _ _) ?_
  rintro e_ w ⟨rfl, hb30⟩
  refine ⟨_, rfl, ?_⟩
  replace H := H.below hb30
  refine TF.ug (v := (.bool _)) rfl rfl (wantF_yes rfl rfl rfl hq25) (pr_beql Try.underlying4 rfl rfl) ?_
  refine TF.u (v := (.bool _)) rfl rfl (pr_pickT rfl hq25 rfl) ?_
  refine TF.u (v := (.bool _)) rfl rfl (pr_assign rfl) ?_
  refine TF.nil (nx_then ?_)
  refine cw_ret (fin1 (v := (.bool _)) Try.results5 rfl rfl ?_)
  exact ⟨by simp, H.base⟩
end Go.Proofs.Ytnhopkokdnbgjaa
namespace Go.Proofs.Ytnhopkokdnbgjaa
open Go.ChangeShapes Go.WideShapes Go.ChangeAt Go.RowKit
open Go.ChangeMaps (open_string shut_string)
theorem pageDecodes_own : ownKnob Try.prog.godebug = none := by kernel_rfl
set_option maxRecDepth 100000 in
theorem pageDecodes_lifted (os : Os) (started : os.Started) (H : Type) (enc : TypeId × Value → H) :
    ReturnsInHanded {} Try.checked os 5 .any (Rows.pageDecodesSpec.pre6 enc Try.prog Try.f5 Rows.pageDecodesRow.domain false) (Rows.pageDecodesSpec.post enc Try.prog Try.f5 false true false false) := by
  refine returnsInHanded_of_change_sized (C := Try.checked) pageDecodes_own started (by kernel_rfl) Try.func5
    (ChangeSpec.witness6 (enc := enc) (C := Try.checked) false ⟨#[], #[.int .i64 0, .string .empty], []⟩ 8 (by kernel_rfl) (by kernel_rfl) (by kernel_rfl) (by kernel_rfl)) ?_
  intro W base args ds gs before hval0 hW hcnd hsz0 _
  have hval : ∀ (j : Nat) t v, Try.f5.params[j]? = some t → args[j]? = some v → Value.okWide Try.prog W .any base t v := hval0
  have hW' := hW
  obtain ⟨p, q, hA0, hV, rfl, hfz, hnd⟩ := hW
  have hA : DataW.TrodAll enc Try.prog W 0 (fun _ => true) true Try.f5.params.toList args.toList ds p := hA0
  have hsz : (DataW.weightsEach Try.prog (Try.f5.params.toList ++ Rows.pageDecodesSpec.plain.varTypes Try.prog) (ds ++ gs)).all (· ≤ reachBytes) = true := hsz0
  rw [Try.params5] at hA hval hsz
  obtain ⟨v0, vs0, d0, ds0, p0, q0, hargs, rfl, rfl, h0, r0⟩ := trodAll_cons hA
  obtain ⟨v1, vs1, d1, ds1, p1, q1, rfl, rfl, rfl, h1, r1⟩ := trodAll_cons r0
  obtain ⟨rfl, rfl, rfl⟩ := trodAll_nil r1
  obtain rfl : args = #[v0, v1] := by cases args; simp_all
  obtain ⟨rfl, rfl⟩ := trodVars_none hV
  obtain ⟨a0, rfl, rfl, rfl, m0⟩ := open_int Try.underlying3 (hval 0 3 v0 rfl rfl) h0
  have z0 := bounds_i64 m0
  obtain ⟨a1, rfl, rfl, rfl, m1⟩ := open_string Try.underlying9 (hval 1 9 v1 rfl rfl) h1
  have z1 : a1.data.toList.length ≤ 140737488351232 := sized_string hsz (j := 1) rfl rfl
  clear hA0 hval0
  refine (PageDecodes_ok a0 a1.data.toList W z0.1 z0.2 z1).mono fun e W' ⟨he, bel⟩ => ?_
  subst he
  exact ⟨_, rfl, _, _, _, [], _, [], hW', trodAll_mk1 (shut_bool Try.underlying4 _), (trodAll_cons_mk (shut_int Try.underlying3 m0) (trodAll_cons_mk (shut_string Try.underlying9 m1) trodAll_mk0)), rfl, bel.frame _, fun h => by cases h⟩
theorem pageDecodes_holds : Rows.PageDecodesSaid :=
  OpenClaim.holds_of_wide 5 Try.f5 rfl rfl rfl rfl rfl rfl rfl ⟨rfl, rfl, rfl, rfl, rfl⟩ rfl rfl rfl rfl rfl (by kernel_rfl) Try.func5 (by kernel_rfl)
    (of_decide_eq_true (by kernel_rfl)) (by unfold Func.isWrapper; first | (rw [if_pos (by decide +kernel)]; kernel_rfl) | (rw [if_neg (by decide +kernel)]; exact ⟨rfl, rfl⟩))
    (fun os started H enc _ => pageDecodes_lifted os started H enc)
end Go.Proofs.Ytnhopkokdnbgjaa
