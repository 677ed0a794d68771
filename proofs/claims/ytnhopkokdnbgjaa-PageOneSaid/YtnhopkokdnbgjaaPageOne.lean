/- The given statement Rows.PageOneSaid: quayside/quaysidelaw04.PageOne returns true for all arguments, and leaves its arguments as they were. No further condition. -/
import Derived.Test.YtnhopkokdnbgjaaFns3
import Derived.Test.YtnhopkokdnbgjaaRows
import Derived.Test.YtnhopkokdnbgjaaPage2
import Derived.Test.YtnhopkokdnbgjaaArgsP
import Derived.Test.YtnhopkokdnbgjaaCore12
import Derived.Test.YtnhopkokdnbgjaaPage3
import Derived.Test.YtnhopkokdnbgjaaArgs
import Derived.WalkKit
import Derived.ProofKit
import Derived.OpenShut
import Derived.ShutString
import Derived.ChangeOld
import Derived.Below
import Derived.SizedLaws
import Derived.JoinedCond
set_option linter.unusedSimpArgs false
set_option linter.unusedVariables false
set_option maxRecDepth 10000
namespace Go.Proofs.Ytnhopkokdnbgjaa
open Go.Q Go.RowKit Go.Proofs
theorem Try.fn10 : Fnc Try.prog 10 Try.f10 := ⟨Try.func10, by kernel_rfl, by kernel_rfl⟩
theorem Try.fn15 : Fnc Try.prog 15 Try.f15 := ⟨Try.func15, by kernel_rfl, by kernel_rfl⟩
theorem PageOne_ok (id : Int) (b : List UInt8) (w0 : World) (hid1 : -9223372036854775808 ≤ id) (hid2 : id ≤ 9223372036854775807) (hb : b.length ≤ 140737488351232) :
    Calls Try.prog 7 #[.int .i64 id, T b] w0 fun e w => e = .returned (.bool true) ∧ Below w0.heap.size w0 w := by
  refine enter (args := [.int .i64 id, T b]) Try.func7 rfl Try.ntmps7 rfl ?_
  have H := Sat.start w0
  refine cw_seq ?_
  -- region 0 law.go:58
  refine cw_region (clf [.U]) [0] rfl (by kernel_rfl) (by decide) ?_
  refine TF.u (v := (.bool _)) rfl rfl (pr_assign rfl) ?_
  refine TF.nil (nx_then ?_)
  refine cw_seq ?_
  refine cw_seq ?_
  -- region 1 law.go:59
  refine cw_region (clf [.X, .U]) [0, 1] rfl (by kernel_rfl) (by decide) ?_
  refine TF.call (args := []) Try.fn10 rfl rfl (wantF_none rfl) rfl (awake_ok _) ?_
  rintro e_ w ⟨rfl, hb1⟩
  refine ⟨_, rfl, ?_⟩
  replace H := H.below hb1
  refine TF.u (v := (.bool _)) rfl rfl (pr_not rfl) ?_
  refine TF.nil (nx_then ?_)
  refine cw_condF (t := _) rfl rfl rfl ?_
  refine cw_skip (nx_then ?_)
  refine cw_seq ?_
  -- region 3 law.go:62
  refine cw_region (clf [.U, .U, .X, .X, .U, .U, .U, .X, .X, .U]) [0, 1, 2, 3, 4, 5, 6, 7, 8, 9] rfl (by kernel_rfl) (by decide) ?_
  refine TF.u (v := (.int .i64 _)) rfl rfl (pr_move rfl) ?_
  refine TF.u (v := (T _)) rfl rfl (pr_move rfl) ?_
  refine TF.tobytes H rfl (Cx.xx rfl) (wantF_none rfl) Try.underlying9 Try.underlying29 Try.underlying5 rfl (by unfold maxLen; first | omega | (simp only [List.length_append]; omega)) ?_
  clear H
  intro Aow2 cow2 w hcapow2 hb3 H
  refine TF.call (args := [(.int .i64 _), (.slice _ _ _)]) Try.fn15 rfl rfl (wantF_none rfl) rfl (decode_ok _ _ _ _ _ _ (H.rd (k := 0) rfl) (by omega) (by omega) (by omega)) ?_
  rintro e_ w ⟨rfl, hb4⟩
  refine ⟨_, rfl, ?_⟩
  replace H := H.below hb4
  refine TF.u (v := (.tuple _)) rfl rfl (pr_move rfl) ?_
  refine TF.u (v := (.agg ⟨pgV ((decS id b).1)⟩)) rfl rfl (pr_extract (vs := _) rfl rfl) ?_
  refine TF.u (v := (.int .i64 _)) rfl rfl (pr_extract (vs := _) rfl rfl) ?_
  refine TF.alloc H rfl (Cx.xx rfl) (wantF_none rfl) (Try.ty27) rfl ?_
  clear H
  intro bk5 w hltbk5 hb6 H
  replace H : Sat _ _ _ (cBlk _ _ (pgV noPg) :: _) := H
  replace H : Sat _ _ _ [_, _] := H
  refine TF.storeN (q := 0) (cs' := pgV ((decS id b).1)) H rfl rfl rfl (wantF_none rfl) (Try.ty27.s) rfl rfl (pgV_len (decS_ok id b).len) (pgV_one _) (by have h_ : (pgV noPg).length = 17 := (pgV_len noPg_ok.len); omega) (store_all (pgV_len noPg_ok.len)) ?_
  clear H
  intro w ho7 H
  replace H : Sat _ _ _ [_, _] := H
  refine TF.u (v := (.int .i64 _)) rfl rfl (pr_assign rfl) ?_
  refine TF.nil (nx_then ?_)
  refine cw_seq ?_
  refine cw_seq ?_
  -- region 4 law.go:63
  refine cw_region (clf [.U, .U]) [0, 1] rfl (by kernel_rfl) (by decide) ?_
  refine TF.u (v := (.int .i64 _)) rfl rfl (pr_move rfl) ?_
  refine TF.u (v := (.bool _)) rfl rfl (pr_neq rfl rfl) ?_
  refine TF.nil (nx_then ?_)
  refine cw_cond _ rfl rfl (fun hq9 => ?_) (fun hq9 => ?_)
  ·
    have hp9 := dF (nT hq9)
    refine cw_seq ?_
    -- region 5 law.go:64
    refine cw_region (clf [.X, .U, .U, .U]) [0, 1, 2, 3] rfl (by kernel_rfl) (by decide) ?_
    refine TF.loadE (cs' := pgV ((decS id b).1)) rfl rfl (wantF_none rfl) (Try.ty27.s) rfl rfl (H.blk (k := 0) rfl) (pgV_len (decS_ok id b).len) (pgV_all (decS_ok id b).len) ?_
    refine TF.u (v := (.agg ⟨pgV noPg⟩)) rfl rfl (pr_build (cs := pgV noPg) Try.bld27 rfl rfl) ?_
    refine TF.u (v := (.bool _)) rfl rfl (run_eqlA (xs := pgV ((decS id b).1)) (ys := pgV noPg) (EqV.page Try.underlying27 (by kernel_rfl) rfl rfl Try.underlying24 rfl (by kernel_rfl) rfl (decS_ok id b).len noPg_ok.len) (by decide) (by kernel_rfl) rfl rfl) ?_
    refine TF.u (v := (.bool _)) rfl rfl (pr_assign rfl) ?_
    refine TF.nil (nx_then ?_)
    refine cw_ret (rt_then (fin1 (v := (.bool _)) Try.results7 rfl rfl ?_))
    exact ⟨by rw [dec_err (by assumption)]; simp, H.base⟩
  ·
    have hp9 := dT (nF hq9)
    refine cw_skip (nx_then ?_)
    refine cw_seq ?_
    -- region 6 law.go:66
    refine cw_region (clf [.U, .X, .X, .U, .U, .U, .U, .U]) [0, 1, 2, 3, 4, 5, 6, 7] rfl (by kernel_rfl) (by decide) ?_
    obtain ⟨h1, h2, h3, h4, h5, h6, h7, h8, h9⟩ := enc_dec (id := id) (b := b) (by assumption)
    refine TF.u (v := (.int .i64 _)) rfl rfl (pr_move rfl) ?_
    refine TF.loadE (cs' := pgV ((decS id b).1)) rfl rfl (wantF_none rfl) (Try.ty27.s) rfl rfl (H.blk (k := 0) rfl) (pgV_len (decS_ok id b).len) (pgV_all (decS_ok id b).len) ?_
    refine TF.call (args := [(.int .i64 _), (.agg ⟨pgV ((decS id b).1)⟩)]) Try.fn11 rfl rfl (wantF_none rfl) rfl (encode_ok _ ((decS id b).1) (decS_ok id b) _ (by omega) (by omega)) ?_
    rintro e_ w ⟨A11, n11, c11, rfl, hn11⟩
    refine ⟨_, rfl, ?_⟩
    replace H := H.newS hn11
    refine TF.u (v := (.tuple _)) rfl rfl (pr_move rfl) ?_
    refine TF.u (v := (.slice _ _ _)) rfl rfl (pr_extract (vs := _) rfl rfl) ?_
    refine TF.u (v := (.int .i64 _)) rfl rfl (pr_extract (vs := _) rfl rfl) ?_
    refine TF.u (v := (.slice _ _ _)) rfl rfl (pr_assign rfl) ?_
    refine TF.u (v := (.int .i64 _)) rfl rfl (pr_assign rfl) ?_
    refine TF.nil (nx_then ?_)
    refine cw_seq ?_
    -- region 7 law.go:67
    refine cw_region (clf [.U, .X, .X, .U, .U, .U, .U, .U]) [0, 1, 2, 3, 4, 5, 6, 7] rfl (by kernel_rfl) (by decide) ?_
    refine TF.u (v := (T _)) rfl rfl (pr_move rfl) ?_
    refine TF.tobytes H rfl (Cx.xx rfl) (wantF_none rfl) Try.underlying9 Try.underlying29 Try.underlying5 rfl (by unfold maxLen; first | omega | (simp only [List.length_append]; omega)) ?_
    clear H
    intro Aow13 cow13 w hcapow13 hb14 H
    refine TF.call (args := [(.slice _ _ _)]) Try.fn17 rfl rfl (wantF_none rfl) rfl (pstamp_ok _ _ _ _ _ (H.rd (k := 0) rfl) (by omega)) ?_
    rintro e_ w ⟨rfl, hb15⟩
    refine ⟨_, rfl, ?_⟩
    replace H := H.below hb15
    refine TF.u (v := (.tuple _)) rfl rfl (pr_move rfl) ?_
    refine TF.u (v := (.int .u64 _)) rfl rfl (pr_extract (vs := _) rfl rfl) ?_
    refine TF.u (v := (.bool _)) rfl rfl (pr_extract (vs := _) rfl rfl) ?_
    refine TF.u (v := (.int .u64 _)) rfl rfl (pr_assign rfl) ?_
    refine TF.u (v := (.bool _)) rfl rfl (pr_assign rfl) ?_
    refine TF.nil (nx_then ?_)
    refine cw_seq ?_
    -- region 8 law.go:68
    refine cw_region (clf [.U, .U, .U, .U, .X, .U, .U, .U, .U, .X, .X, .U, .U, .U, .U, .U, .U, .U, .X, .U, .U, .U]) [0, 1, 2, 3, 4, 5, 6, 7, 8, 9, 10, 11, 12, 13, 14, 15, 16, 17, 18, 19, 20, 21] rfl (by kernel_rfl) (by decide) ?_
    rw [encS_yes h1 h2] at H ⊢
    refine TF.u (v := (.int .i64 _)) rfl rfl (pr_move rfl) ?_
    refine TF.u (v := (.bool _)) rfl rfl (pr_eql rfl rfl) ?_
    refine TF.u (v := (.bool _)) rfl rfl (pr_move rfl) ?_
    refine TF.split (dj := 39) rfl ?_ (fun hq18 => by
        have hp18 := dF hq18
        exfalso
        first | exact hp18 rfl | exact hp18 h4 | (simp [h2] at hp18; done) | (simp [h7] at hp18; done))
    intro hq18
    have hp18 := dT hq18
    refine TF.ug (v := (.slice _ _ _)) rfl rfl (wantF_yes rfl rfl rfl hq18) (pr_move rfl) ?_
    refine TF.tostr (H.rd (k := 1) rfl) rfl rfl (wantF_yes rfl rfl rfl hq18) Try.underlying29 Try.underlying5 Try.underlying9 rfl ?_
    refine TF.ug (v := (T _)) rfl rfl (wantF_yes rfl rfl rfl hq18) (pr_move rfl) ?_
    refine TF.ug (v := (.bool _)) rfl rfl (wantF_yes rfl rfl rfl hq18) (pr_seql rfl rfl) ?_
    refine TF.u (v := (.bool _)) rfl rfl (pr_pickT rfl hq18 rfl) ?_
    refine TF.u (v := (.bool _)) rfl rfl (pr_move rfl) ?_
    refine TF.split (dj := 45) rfl ?_ (fun hq20 => by
        have hp20 := eF hq20
        exfalso
        first | exact hp20 rfl | exact hp20 h4 | (simp [h2] at hp20; done) | (simp [h7] at hp20; done))
    intro hq20
    have hp20 := eT hq20
    refine TF.loadE (cs' := pgV ((decS id b).1)) rfl rfl (wantF_yes rfl rfl rfl hq20) (Try.ty27.s) rfl rfl (H.blk (k := 2) rfl) (pgV_len (decS_ok id b).len) (pgV_all (decS_ok id b).len) ?_
    refine TF.call (args := [(.agg ⟨pgV ((decS id b).1)⟩)]) Try.fn13 rfl rfl (wantF_yes rfl rfl rfl hq20) rfl (pright_ok ((decS id b).1) (decS_ok id b) _) ?_
    rintro e_ w ⟨rfl, hb21⟩
    refine ⟨_, rfl, ?_⟩
    replace H := H.below hb21
    refine TF.u (v := (.bool _)) rfl rfl (pr_pickT rfl hq20 rfl) ?_
    refine TF.u (v := (.bool _)) rfl rfl (pr_move rfl) ?_
    refine TF.split (dj := 49) rfl ?_ (fun hq23 => by
        have hp23 := hq23
        exfalso
        first | exact hp23 rfl | exact hp23 h4 | (simp [h2] at hp23; done) | (simp [h7] at hp23; done))
    intro hq23
    have hp23 := hq23
    refine TF.ug (v := (.bool _)) rfl rfl (wantF_yes rfl rfl rfl hq23) (pr_move rfl) ?_
    refine TF.u (v := (.bool _)) rfl rfl (pr_pickT rfl hq23 rfl) ?_
    refine TF.u (v := (.bool _)) rfl rfl (pr_move rfl) ?_
    refine TF.split (dj := 52) rfl ?_ (fun hq24 => by
        have hp24 := hq24
        exfalso
        first | exact hp24 rfl | exact hp24 h4 | (simp [h2] at hp24; done) | (simp [h7] at hp24; done))
    intro hq24
    have hp24 := hq24
    refine TF.ug (v := (.int .u64 _)) rfl rfl (wantF_yes rfl rfl rfl hq24) (pr_move rfl) ?_
    refine TF.ug (v := (.pointer (some ⟨_, 0, none⟩))) rfl rfl (wantF_yes rfl rfl rfl hq24) (pr_field (o' := 0) Try.underlying27 rfl (Try.ty22.s) (by decide) rfl rfl) ?_
    refine TF.load (v := (.int .u64 (((decS id b).1).lsn : Int))) rfl rfl (wantF_yes rfl rfl rfl hq24) Try.underlying22 rfl rfl ((H.blk (k := 2) rfl).at_ rfl) ?_
    refine TF.ug (v := (.bool _)) rfl rfl (wantF_yes rfl rfl rfl hq24) (pr_eql rfl rfl) ?_
    refine TF.u (v := (.bool _)) rfl rfl (pr_pickT rfl hq24 rfl) ?_
    refine TF.u (v := (.bool _)) rfl rfl (pr_assign rfl) ?_
    refine TF.nil (nx_then ?_)
    refine cw_ret (fin1 (v := (.bool _)) Try.results7 rfl rfl ?_)
    exact ⟨by rw [h7]; simp, H.base⟩
end Go.Proofs.Ytnhopkokdnbgjaa
namespace Go.Proofs.Ytnhopkokdnbgjaa
open Go.ChangeShapes Go.WideShapes Go.ChangeAt Go.RowKit
open Go.ChangeMaps (open_string shut_string)
theorem pageOne_own : ownKnob Try.prog.godebug = none := by kernel_rfl
set_option maxRecDepth 100000 in
theorem pageOne_lifted (os : Os) (started : os.Started) (H : Type) (enc : TypeId × Value → H) :
    ReturnsInHanded {} Try.checked os 7 .any (Rows.pageOneSpec.pre6 enc Try.prog Try.f7 Rows.pageOneRow.domain false) (Rows.pageOneSpec.post enc Try.prog Try.f7 false true false false) := by
  refine returnsInHanded_of_change_sized (C := Try.checked) pageOne_own started (by kernel_rfl) Try.func7
    (ChangeSpec.witness6 (enc := enc) (C := Try.checked) false ⟨#[], #[.int .i64 0, .string .empty], []⟩ 8 (by kernel_rfl) (by kernel_rfl) (by kernel_rfl) (by kernel_rfl)) ?_
  intro W base args ds gs before hval0 hW hcnd hsz0 _
  have hval : ∀ (j : Nat) t v, Try.f7.params[j]? = some t → args[j]? = some v → Value.okWide Try.prog W .any base t v := hval0
  have hW' := hW
  obtain ⟨p, q, hA0, hV, rfl, hfz, hnd⟩ := hW
  have hA : DataW.TrodAll enc Try.prog W 0 (fun _ => true) true Try.f7.params.toList args.toList ds p := hA0
  have hsz : (DataW.weightsEach Try.prog (Try.f7.params.toList ++ Rows.pageOneSpec.plain.varTypes Try.prog) (ds ++ gs)).all (· ≤ reachBytes) = true := hsz0
  rw [Try.params7] at hA hval hsz
  obtain ⟨v0, vs0, d0, ds0, p0, q0, hargs, rfl, rfl, h0, r0⟩ := trodAll_cons hA
  obtain ⟨v1, vs1, d1, ds1, p1, q1, rfl, rfl, rfl, h1, r1⟩ := trodAll_cons r0
  obtain ⟨rfl, rfl, rfl⟩ := trodAll_nil r1
  obtain rfl : args = #[v0, v1] := by cases args; simp_all
  obtain ⟨rfl, rfl⟩ := trodVars_none hV
  obtain ⟨a0, rfl, rfl, rfl, m0⟩ := open_int Try.underlying3 (hval 0 3 v0 rfl rfl) h0
  have z0 := bounds_i64 m0
  obtain ⟨a1, rfl, rfl, rfl, m1⟩ := open_string Try.underlying9 (hval 1 9 v1 rfl rfl) h1
  have z1 : a1.data.toList.length ≤ 140737488351232 := sized_string hsz (j := 1) rfl rfl
  clear hA0 hval0
  refine (PageOne_ok a0 a1.data.toList W z0.1 z0.2 z1).mono fun e W' ⟨he, bel⟩ => ?_
  subst he
  exact ⟨_, rfl, _, _, _, [], _, [], hW', trodAll_mk1 (shut_bool Try.underlying4 _), (trodAll_cons_mk (shut_int Try.underlying3 m0) (trodAll_cons_mk (shut_string Try.underlying9 m1) trodAll_mk0)), rfl, bel.frame _, fun h => by cases h⟩
theorem pageOne_holds : Rows.PageOneSaid :=
  OpenClaim.holds_of_wide 7 Try.f7 rfl rfl rfl rfl rfl rfl rfl ⟨rfl, rfl, rfl, rfl, rfl⟩ rfl rfl rfl rfl rfl (by kernel_rfl) Try.func7 (by kernel_rfl)
    (of_decide_eq_true (by kernel_rfl)) (by unfold Func.isWrapper; first | (rw [if_pos (by decide +kernel)]; kernel_rfl) | (rw [if_neg (by decide +kernel)]; exact ⟨rfl, rfl⟩))
    (fun os started H enc _ => pageOne_lifted os started H enc)
end Go.Proofs.Ytnhopkokdnbgjaa
