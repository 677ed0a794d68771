/- The given statement Rows.PageBackSaid: quayside/quaysidelaw04.PageBack returns true for all arguments, and leaves its arguments as they were. No further condition. -/
import Derived.Test.YtnhopkokdnbgjaaFns3
import Derived.Test.YtnhopkokdnbgjaaRows
import Derived.Test.YtnhopkokdnbgjaaPage2
import Derived.Test.YtnhopkokdnbgjaaArgsP
import Derived.Test.YtnhopkokdnbgjaaCore12
import Derived.Test.YtnhopkokdnbgjaaPage3
import Derived.Test.YtnhopkokdnbgjaaArgs
import Derived.WalkKit
import Derived.ProofKit
import Derived.OpenShut
import Derived.ShutString
import Derived.ChangeOld
import Derived.Below
import Derived.SizedLaws
import Derived.JoinedCond
set_option linter.unusedSimpArgs false
set_option linter.unusedVariables false
set_option maxRecDepth 10000
namespace Go.Proofs.Ytnhopkokdnbgjaa
open Go.Q Go.RowKit Go.Proofs
theorem Try.fn10 : Fnc Try.prog 10 Try.f10 := ⟨Try.func10, by kernel_rfl, by kernel_rfl⟩
theorem Try.fn15 : Fnc Try.prog 15 Try.f15 := ⟨Try.func15, by kernel_rfl, by kernel_rfl⟩
theorem PageBack_ok (id : Int) (other : Int) (p : PG) (w0 : World) (hid1 : -9223372036854775808 ≤ id) (hid2 : id ≤ 9223372036854775807) (hother1 : -9223372036854775808 ≤ other) (hother2 : other ≤ 9223372036854775807) (ok_p : POk p) :
    Calls Try.prog 6 #[.int .i64 id, .int .i64 other, .agg ⟨pgV p⟩] w0 fun e w => e = .returned (.bool true) ∧ Below w0.heap.size w0 w := by
  refine enter (args := [.int .i64 id, .int .i64 other, .agg ⟨pgV p⟩]) Try.func6 rfl Try.ntmps6 rfl ?_
  have H := Sat.start w0
  refine cw_seq ?_
  -- region 0 law.go:39
  refine cw_region (clf [.X, .U]) [0, 1] rfl (by kernel_rfl) (by decide) ?_
  refine TF.box (v := (.agg ⟨pgV p⟩)) H rfl (Cx.xx rfl) (wantF_none rfl) rfl rfl ?_
  clear H
  intro bk1 w hltbk1 hb2 H
  refine TF.u (v := (.bool _)) rfl rfl (pr_assign rfl) ?_
  refine TF.nil (nx_then ?_)
  refine cw_seq ?_
  refine cw_seq ?_
  -- region 1 law.go:40
  refine cw_region (clf [.X, .U]) [0, 1] rfl (by kernel_rfl) (by decide) ?_
  refine TF.call (args := []) Try.fn10 rfl rfl (wantF_none rfl) rfl (awake_ok _) ?_
  rintro e_ w ⟨rfl, hb3⟩
  refine ⟨_, rfl, ?_⟩
  replace H := H.below hb3
  refine TF.u (v := (.bool _)) rfl rfl (pr_not rfl) ?_
  refine TF.nil (nx_then ?_)
  refine cw_condF (t := _) rfl rfl rfl ?_
  refine cw_skip (nx_then ?_)
  refine cw_seq ?_
  -- region 3 law.go:43
  refine cw_region (clf [.U, .X, .X, .U, .U, .U, .U, .U]) [0, 1, 2, 3, 4, 5, 6, 7] rfl (by kernel_rfl) (by decide) ?_
  refine TF.u (v := (.int .i64 _)) rfl rfl (pr_move rfl) ?_
  refine TF.loadE (cs' := pgV p) rfl rfl (wantF_none rfl) (Try.ty27.s) rfl rfl (H.blk (k := 0) rfl) (pgV_len ok_p.len) (pgV_all ok_p.len) ?_
  refine TF.call (args := [(.int .i64 _), (.agg ⟨pgV p⟩)]) Try.fn11 rfl rfl (wantF_none rfl) rfl (encode_ok _ p ok_p _ (by omega) (by omega)) ?_
  rintro e_ w ⟨A4, n4, c4, rfl, hn4⟩
  refine ⟨_, rfl, ?_⟩
  replace H := H.newS hn4
  refine TF.u (v := (.tuple _)) rfl rfl (pr_move rfl) ?_
  refine TF.u (v := (.slice _ _ _)) rfl rfl (pr_extract (vs := _) rfl rfl) ?_
  refine TF.u (v := (.int .i64 _)) rfl rfl (pr_extract (vs := _) rfl rfl) ?_
  refine TF.u (v := (.slice _ _ _)) rfl rfl (pr_assign rfl) ?_
  refine TF.u (v := (.int .i64 _)) rfl rfl (pr_assign rfl) ?_
  refine TF.nil (nx_then ?_)
  refine cw_seq ?_
  refine cw_seq ?_
  -- region 4 law.go:44
  refine cw_region (clf [.U, .U]) [0, 1] rfl (by kernel_rfl) (by decide) ?_
  refine TF.u (v := (.int .i64 _)) rfl rfl (pr_move rfl) ?_
  refine TF.u (v := (.bool _)) rfl rfl (pr_neq rfl rfl) ?_
  refine TF.nil (nx_then ?_)
  refine cw_cond _ rfl rfl (fun hq7 => ?_) (fun hq7 => ?_)
  ·
    have hp7 := dF (nT hq7)
    refine cw_seq ?_
    -- region 5 law.go:45
    refine cw_region (clf [.U, .U, .U, .U, .X, .X, .U, .U, .U, .U, .U, .U, .U, .U, .U, .U, .U]) [0, 1, 2, 3, 4, 5, 6, 7, 8, 9, 10, 11, 12, 13, 14, 15, 16] rfl (by kernel_rfl) (by decide) ?_
    obtain ⟨he1, he2⟩ := encS_err (id := id) (p := p) (by assumption)
    have hz := (H.rdB (k := 0) rfl).length
    rw [he1] at hz
    simp only [List.length_nil] at hz
    refine TF.u (v := (.slice _ _ _)) rfl rfl (pr_move rfl) ?_
    refine TF.u (v := (.int .i64 _)) rfl rfl (pr_len rfl Try.underlying29 rfl) ?_
    refine TF.u (v := (.bool _)) rfl rfl (pr_eql rfl rfl) ?_
    refine TF.u (v := (.bool _)) rfl rfl (pr_move rfl) ?_
    refine TF.split (dj := 30) rfl ?_ (fun hq9 => by
        have hp9 := dF hq9
        exfalso
        exact hp9 (by omega))
    intro hq9
    have hp9 := dT hq9
    refine TF.loadE (cs' := pgV p) rfl rfl (wantF_yes rfl rfl rfl hq9) (Try.ty27.s) rfl rfl (H.blk (k := 1) rfl) (pgV_len ok_p.len) (pgV_all ok_p.len) ?_
    refine TF.call (args := [(.agg ⟨pgV p⟩)]) Try.fn13 rfl rfl (wantF_yes rfl rfl rfl hq9) rfl (pright_ok p ok_p _) ?_
    rintro e_ w ⟨rfl, hb10⟩
    refine ⟨_, rfl, ?_⟩
    replace H := H.below hb10
    refine TF.ug (v := (.bool _)) rfl rfl (wantF_yes rfl rfl rfl hq9) (pr_not rfl) ?_
    refine TF.ug (v := (.bool _)) rfl rfl (wantF_yes rfl rfl rfl hq9) (pr_move rfl) ?_
    refine TF.split (dj := 34) rfl (fun hq12 => ?_) (fun hq12 => ?_)
    ·
      have hp12 := (nT hq12)
      refine TF.skip rfl (wantF_no rfl rfl rfl (bnF (nT hq12))) ?_
      refine TF.skip rfl (wantF_no rfl rfl rfl (bnF (nT hq12))) ?_
      refine TF.ug (v := (.bool _)) rfl rfl (wantF_yes rfl rfl rfl hq9) (pr_pickT rfl (bnF (nT hq12)) rfl) ?_
      refine TF.ug (v := (.bool _)) rfl rfl (wantF_yes rfl rfl rfl hq9) (pr_move rfl) ?_
      refine TF.skip rfl (wantF_no rfl rfl rfl rfl) ?_
      refine TF.skip rfl (wantF_no rfl rfl rfl rfl) ?_
      refine TF.ug (v := (.bool _)) rfl rfl (wantF_yes rfl rfl rfl hq9) (pr_pickT rfl rfl rfl) ?_
      refine TF.u (v := (.bool _)) rfl rfl (pr_pickT rfl hq9 rfl) ?_
      refine TF.u (v := (.bool _)) rfl rfl (pr_assign rfl) ?_
      refine TF.nil (nx_then ?_)
      refine cw_ret (rt_then (fin1 (v := (.bool _)) Try.results6 rfl rfl ?_))
      exact ⟨by rcases he2 with h_ | h_ | h_ <;> simp_all <;> omega, H.base⟩
    ·
      have hp12 := (nF hq12)
      refine TF.ug (v := (.int .i64 _)) rfl rfl (wantF_yes rfl rfl rfl (bnT (nF hq12))) (pr_move rfl) ?_
      refine TF.ug (v := (.bool _)) rfl rfl (wantF_yes rfl rfl rfl (bnT (nF hq12))) (pr_lss rfl rfl) ?_
      refine TF.ug (v := (.bool _)) rfl rfl (wantF_yes rfl rfl rfl hq9) (pr_pickF rfl (bnT (nF hq12)) rfl) ?_
      refine TF.ug (v := (.bool _)) rfl rfl (wantF_yes rfl rfl rfl hq9) (pr_move rfl) ?_
      refine TF.split (dj := 38) rfl (fun hq14 => ?_) (fun hq14 => ?_)
      ·
        have hp14 := dT hq14
        refine TF.skip rfl (wantF_no rfl rfl rfl hq14) ?_
        refine TF.skip rfl (wantF_no rfl rfl rfl hq14) ?_
        refine TF.ug (v := (.bool _)) rfl rfl (wantF_yes rfl rfl rfl hq9) (pr_pickT rfl hq14 rfl) ?_
        refine TF.u (v := (.bool _)) rfl rfl (pr_pickT rfl hq9 rfl) ?_
        refine TF.u (v := (.bool _)) rfl rfl (pr_assign rfl) ?_
        refine TF.nil (nx_then ?_)
        refine cw_ret (rt_then (fin1 (v := (.bool _)) Try.results6 rfl rfl ?_))
        exact ⟨by rcases he2 with h_ | h_ | h_ <;> simp_all <;> omega, H.base⟩
      ·
        have hp14 := dF hq14
        refine TF.ug (v := (.int .i64 _)) rfl rfl (wantF_yes rfl rfl rfl hq14) (pr_move rfl) ?_
        refine TF.ug (v := (.bool _)) rfl rfl (wantF_yes rfl rfl rfl hq14) (pr_geq rfl rfl) ?_
        refine TF.ug (v := (.bool _)) rfl rfl (wantF_yes rfl rfl rfl hq9) (pr_pickF rfl hq14 rfl) ?_
        refine TF.u (v := (.bool _)) rfl rfl (pr_pickT rfl hq9 rfl) ?_
        refine TF.u (v := (.bool _)) rfl rfl (pr_assign rfl) ?_
        refine TF.nil (nx_then ?_)
        refine cw_ret (rt_then (fin1 (v := (.bool _)) Try.results6 rfl rfl ?_))
        exact ⟨by rcases he2 with h_ | h_ | h_ <;> simp_all <;> omega, H.base⟩
  ·
    have hp7 := dT (nF hq7)
    refine cw_skip (nx_then ?_)
    refine cw_seq ?_
    -- region 6 law.go:47
    refine cw_region (clf [.U, .U, .X, .U, .U, .U, .X, .X, .U]) [0, 1, 2, 3, 4, 5, 6, 7, 8] rfl (by kernel_rfl) (by decide) ?_
    obtain ⟨hnum, hr, hen⟩ := encS_ok (id := id) (p := p) (by assumption)
    rw [hen] at H
    have hdec := dec_enc hnum ok_p.len hr
    have him := imageS_len (id := id.toNat) ok_p.len hr
    have hz := (H.rdB (k := 0) rfl).length
    have hzc := (H.rdB (k := 0) rfl).cap
    refine TF.u (v := (.int .i64 _)) rfl rfl (pr_move rfl) ?_
    refine TF.u (v := (.slice _ _ _)) rfl rfl (pr_move rfl) ?_
    refine TF.call (args := [(.int .i64 _), (.slice _ _ _)]) Try.fn15 rfl rfl (wantF_none rfl) rfl (decode_ok _ _ _ _ _ _ (H.rd (k := 0) rfl) (by omega) (by omega) (by omega)) ?_
    rintro e_ w ⟨rfl, hb16⟩
    refine ⟨_, rfl, ?_⟩
    replace H := H.below hb16
    refine TF.u (v := (.tuple _)) rfl rfl (pr_move rfl) ?_
    refine TF.u (v := (.agg ⟨pgV ((decS id (imageS id.toNat p)).1)⟩)) rfl rfl (pr_extract (vs := _) rfl rfl) ?_
    refine TF.u (v := (.int .i64 _)) rfl rfl (pr_extract (vs := _) rfl rfl) ?_
    refine TF.alloc H rfl (Cx.xx rfl) (wantF_none rfl) (Try.ty27) rfl ?_
    clear H
    intro bk17 w hltbk17 hb18 H
    replace H : Sat _ _ _ (cBlk _ _ (pgV noPg) :: _) := H
    replace H : Sat _ _ _ [_, _, _] := H
    refine TF.storeN (q := 0) (cs' := pgV ((decS id (imageS id.toNat p)).1)) H rfl rfl rfl (wantF_none rfl) (Try.ty27.s) rfl rfl (pgV_len (decS_ok id (imageS id.toNat p)).len) (pgV_one _) (by have h_ : (pgV noPg).length = 17 := (pgV_len noPg_ok.len); omega) (store_all (pgV_len noPg_ok.len)) ?_
    clear H
    intro w ho19 H
    replace H : Sat _ _ _ [_, _, _] := H
    refine TF.u (v := (.int .i64 _)) rfl rfl (pr_assign rfl) ?_
    refine TF.nil (nx_then ?_)
    refine cw_seq ?_
    refine cw_seq ?_
    -- region 7 law.go:48
    refine cw_region (clf [.U, .U, .U, .X, .X, .U, .U, .U, .U, .U, .U, .U]) [0, 1, 2, 3, 4, 5, 6, 7, 8, 9, 10, 11] rfl (by kernel_rfl) (by decide) ?_
    refine TF.u (v := (.int .i64 _)) rfl rfl (pr_move rfl) ?_
    refine TF.u (v := (.bool _)) rfl rfl (pr_neq rfl rfl) ?_
    refine TF.u (v := (.bool _)) rfl rfl (pr_move rfl) ?_
    refine TF.split (dj := 51) rfl (fun hq21 => by
        have hp21 := dF (nT hq21)
        exfalso
        first | omega | (rw [hdec] at hp21; exact hp21 rfl) | (simp [hdec] at hp21; done)) ?_
    intro hq21
    have hp21 := dT (nF hq21)
    refine TF.loadE (cs' := pgV ((decS id (imageS id.toNat p)).1)) rfl rfl (wantF_yes rfl rfl rfl hq21) (Try.ty27.s) rfl rfl (H.blk (k := 0) rfl) (pgV_len (decS_ok id (imageS id.toNat p)).len) (pgV_all (decS_ok id (imageS id.toNat p)).len) ?_
    refine TF.loadE (cs' := pgV p) rfl rfl (wantF_yes rfl rfl rfl hq21) (Try.ty27.s) rfl rfl (H.blk (k := 2) rfl) (pgV_len ok_p.len) (pgV_all ok_p.len) ?_
    refine TF.ug (v := (.bool _)) rfl rfl (wantF_yes rfl rfl rfl hq21) (run_neqA (xs := pgV ((decS id (imageS id.toNat p)).1)) (ys := pgV p) (EqV.page Try.underlying27 (by kernel_rfl) rfl rfl Try.underlying24 rfl (by kernel_rfl) rfl (decS_ok id (imageS id.toNat p)).len ok_p.len) (by decide) (by kernel_rfl) rfl rfl) ?_
    refine TF.u (v := (.bool _)) rfl rfl (pr_pickF rfl hq21 rfl) ?_
    refine TF.u (v := (.bool _)) rfl rfl (pr_move rfl) ?_
    refine TF.split (dj := 56) rfl (fun hq23 => by
        have hp23 := dF (nT hq23)
        exfalso
        first | omega | (rw [hdec] at hp23; exact hp23 rfl) | (simp [hdec] at hp23; done)) ?_
    intro hq23
    have hp23 := dT (nF hq23)
    refine TF.ug (v := (.slice _ _ _)) rfl rfl (wantF_yes rfl rfl rfl hq23) (pr_move rfl) ?_
    refine TF.ug (v := (.int .i64 _)) rfl rfl (wantF_yes rfl rfl rfl hq23) (pr_len rfl Try.underlying29 rfl) ?_
    refine TF.ug (v := (.bool _)) rfl rfl (wantF_yes rfl rfl rfl hq23) (pr_neq rfl rfl) ?_
    refine TF.u (v := (.bool _)) rfl rfl (pr_pickF rfl hq23 rfl) ?_
    refine TF.nil (nx_then ?_)
    refine cw_cond _ rfl rfl (fun hq25 => by
        have hp25 := dF (nT hq25)
        exfalso
        first | omega | (rw [hdec] at hp25; exact hp25 rfl) | (simp [hdec] at hp25; done)) ?_
    intro hq25
    have hp25 := dT (nF hq25)
    refine cw_skip (nx_then ?_)
    refine cw_seq ?_
    -- region 9 law.go:51
    refine cw_region (clf [.U, .U, .X, .U, .U, .U, .X, .X, .U]) [0, 1, 2, 3, 4, 5, 6, 7, 8] rfl (by kernel_rfl) (by decide) ?_
    refine TF.u (v := (.int .i64 _)) rfl rfl (pr_move rfl) ?_
    refine TF.u (v := (.slice _ _ _)) rfl rfl (pr_move rfl) ?_
    refine TF.call (args := [(.int .i64 _), (.slice _ _ _)]) Try.fn15 rfl rfl (wantF_none rfl) rfl (decode_ok _ _ _ _ _ _ (H.rd (k := 1) rfl) (by omega) (by omega) (by omega)) ?_
    rintro e_ w ⟨rfl, hb26⟩
    refine ⟨_, rfl, ?_⟩
    replace H := H.below hb26
    refine TF.u (v := (.tuple _)) rfl rfl (pr_move rfl) ?_
    refine TF.u (v := (.agg ⟨pgV ((decS other (imageS id.toNat p)).1)⟩)) rfl rfl (pr_extract (vs := _) rfl rfl) ?_
    refine TF.u (v := (.int .i64 _)) rfl rfl (pr_extract (vs := _) rfl rfl) ?_
    refine TF.alloc H rfl (Cx.xx rfl) (wantF_none rfl) (Try.ty27) rfl ?_
    clear H
    intro bk27 w hltbk27 hb28 H
    replace H : Sat _ _ _ (cBlk _ _ (pgV noPg) :: _) := H
    replace H : Sat _ _ _ [_, _, _, _] := H
    refine TF.storeN (q := 0) (cs' := pgV ((decS other (imageS id.toNat p)).1)) H rfl rfl rfl (wantF_none rfl) (Try.ty27.s) rfl rfl (pgV_len (decS_ok other (imageS id.toNat p)).len) (pgV_one _) (by have h_ : (pgV noPg).length = 17 := (pgV_len noPg_ok.len); omega) (store_all (pgV_len noPg_ok.len)) ?_
    clear H
    intro w ho29 H
    replace H : Sat _ _ _ [_, _, _, _] := H
    refine TF.u (v := (.int .i64 _)) rfl rfl (pr_assign rfl) ?_
    refine TF.nil (nx_then ?_)
    refine cw_seq ?_
    -- region 10 law.go:52
    refine cw_region (clf [.U, .U, .U, .X, .U, .U, .U, .X, .X, .U]) [0, 1, 2, 3, 4, 5, 6, 7, 8, 9] rfl (by kernel_rfl) (by decide) ?_
    refine TF.u (v := (.int .i64 _)) rfl rfl (pr_move rfl) ?_
    refine TF.u (v := (.slice _ _ _)) rfl rfl (pr_move rfl) ?_
    refine TF.u (v := (.slice _ _ _)) rfl rfl (pr_cut (l := 0) (h := 255) (mm := c4) Try.underlying29 (Try.ty5.s) rfl (.inl ⟨rfl, rfl⟩) (.inr ⟨_, _, rfl, rfl⟩) (.inl ⟨rfl, rfl⟩) (by omega) (by omega) (by omega) (n' := 255) (c' := c4) (by omega) (by omega)) ?_
    have hcut30 := RdB.cut (lo := 0) (hi := 255) (m := c4) (n' := 255) (c' := c4) (H.rd (k := 2) rfl) (by omega) (by omega) (by omega) (by omega) (by omega) (by omega)
    refine TF.call (args := [(.int .i64 _), (.slice _ _ _)]) Try.fn15 rfl rfl (wantF_none rfl) rfl (decode_ok _ _ _ _ _ _ hcut30 (by omega) (by omega) (by omega)) ?_
    rintro e_ w ⟨rfl, hb31⟩
    refine ⟨_, rfl, ?_⟩
    replace hcut30 := hcut30.below hb31
    replace H := H.below hb31
    refine TF.u (v := (.tuple _)) rfl rfl (pr_move rfl) ?_
    refine TF.u (v := (.agg ⟨pgV ((decS id (((imageS id.toNat p).drop 0).take 255)).1)⟩)) rfl rfl (pr_extract (vs := _) rfl rfl) ?_
    refine TF.u (v := (.int .i64 _)) rfl rfl (pr_extract (vs := _) rfl rfl) ?_
    refine TF.alloc H rfl (Cx.xx rfl) (wantF_none rfl) (Try.ty27) rfl ?_
    clear H
    intro bk32 w hltbk32 hb33 H
    replace hcut30 := hcut30.below hb33
    replace H : Sat _ _ _ (cBlk _ _ (pgV noPg) :: _) := H
    replace H : Sat _ _ _ [_, _, _, _, _] := H
    refine TF.storeN (q := 0) (cs' := pgV ((decS id (((imageS id.toNat p).drop 0).take 255)).1)) H rfl rfl rfl (wantF_none rfl) (Try.ty27.s) rfl rfl (pgV_len (decS_ok id (((imageS id.toNat p).drop 0).take 255)).len) (pgV_one _) (by have h_ : (pgV noPg).length = 17 := (pgV_len noPg_ok.len); omega) (store_all (pgV_len noPg_ok.len)) ?_
    clear H
    intro w ho34 H
    replace H : Sat _ _ _ [_, _, _, _, _] := H
    refine TF.u (v := (.int .i64 _)) rfl rfl (pr_assign rfl) ?_
    refine TF.nil (nx_then ?_)
    refine cw_seq ?_
    -- region 11 law.go:53
    refine cw_region (clf [.U, .U, .U, .X, .X, .X, .U, .U, .U, .X, .X, .U]) [0, 1, 2, 3, 4, 5, 6, 7, 8, 9, 10, 11] rfl (by kernel_rfl) (by decide) ?_
    refine TF.u (v := (.int .i64 _)) rfl rfl (pr_move rfl) ?_
    refine TF.u (v := (.slice _ _ _)) rfl rfl (pr_move rfl) ?_
    refine TF.u (v := (.slice _ _ _)) rfl rfl (pr_cut (l := 0) (h := 256) (mm := 256) Try.underlying29 (Try.ty5.s) rfl (.inl ⟨rfl, rfl⟩) (.inr ⟨_, _, rfl, rfl⟩) (.inr ⟨_, _, rfl, rfl⟩) (by omega) (by omega) (by omega) (n' := 256) (c' := 256) (by omega) (by omega)) ?_
    have hcut35 := RdB.cut (lo := 0) (hi := 256) (m := 256) (n' := 256) (c' := 256) (H.rd (k := 3) rfl) (by omega) (by omega) (by omega) (by omega) (by omega) (by omega)
    refine TF.lit (vs := [(.int .u8 _)]) H rfl (Cx.xx rfl) (wantF_none rfl) Try.underlying29 (Try.ty5) rfl rfl rfl rfl rfl rfl ?_
    clear H
    intro bk36 w hltbk36 hb37 H
    replace hcut35 := hcut35.below hb37
    replace H : Sat _ _ _ (cBlk _ _ (u8s [0]) :: _) := H
    replace H : Sat _ _ _ [_, _, _, _, _, _] := H
    refine TF.appendN (v := (.slice _ _ _)) H hcut35 rfl hcut35.none0 rfl (Cx.xx rfl) (wantF_none rfl) Try.underlying29 (Try.ty5) rfl Try.underlying29 (.inr ⟨_, rfl⟩) rfl rfl (Src.rdB ((H.blk (k := 0) rfl).own 1 rfl (by decide)).rd) (by unfold maxLen; first | omega | (simp only [List.length_append, List.length_cons, List.length_nil]; omega)) (by first | omega | (simp only [List.length_append, List.length_cons, List.length_nil]; omega)) ?_
    clear H
    intro A_39 c_39 w hb39 H hap38
    replace hcut35 := hcut35.below hb39
    replace H : Sat _ _ _ [_, _, _, _, _, _] := H
    rw [← u8s_app] at hap38
    refine TF.call (args := [(.int .i64 _), (.slice _ _ _)]) Try.fn15 rfl rfl (wantF_none rfl) rfl (decode_ok _ _ _ _ _ _ hap38 (by omega) (by omega) (by omega)) ?_
    rintro e_ w ⟨rfl, hb40⟩
    refine ⟨_, rfl, ?_⟩
    replace hcut35 := hcut35.below hb40
    replace hap38 := hap38.below hb40
    replace H := H.below hb40
    refine TF.u (v := (.tuple _)) rfl rfl (pr_move rfl) ?_
    refine TF.u (v := (.agg ⟨pgV ((decS id (((imageS id.toNat p).drop 0).take 256 ++ [0])).1)⟩)) rfl rfl (pr_extract (vs := _) rfl rfl) ?_
    refine TF.u (v := (.int .i64 _)) rfl rfl (pr_extract (vs := _) rfl rfl) ?_
    refine TF.alloc H rfl (Cx.xx rfl) (wantF_none rfl) (Try.ty27) rfl ?_
    clear H
    intro bk41 w hltbk41 hb42 H
    replace hcut35 := hcut35.below hb42
    replace hap38 := hap38.below hb42
    replace H : Sat _ _ _ (cBlk _ _ (pgV noPg) :: _) := H
    replace H : Sat _ _ _ [_, _, _, _, _, _, _] := H
    refine TF.storeN (q := 0) (cs' := pgV ((decS id (((imageS id.toNat p).drop 0).take 256 ++ [0])).1)) H rfl rfl rfl (wantF_none rfl) (Try.ty27.s) rfl rfl (pgV_len (decS_ok id (((imageS id.toNat p).drop 0).take 256 ++ [0])).len) (pgV_one _) (by have h_ : (pgV noPg).length = 17 := (pgV_len noPg_ok.len); omega) (store_all (pgV_len noPg_ok.len)) ?_
    clear H
    intro w ho43 H
    replace H : Sat _ _ _ [_, _, _, _, _, _, _] := H
    refine TF.u (v := (.int .i64 _)) rfl rfl (pr_assign rfl) ?_
    refine TF.nil (nx_then ?_)
    refine cw_seq ?_
    -- region 12 law.go:54
    refine cw_region (clf [.U, .U, .U, .U, .U, .U, .U, .U, .U, .U, .U, .U, .U, .U, .U]) [0, 1, 2, 3, 4, 5, 6, 7, 8, 9, 10, 11, 12, 13, 14] rfl (by kernel_rfl) (by decide) ?_
    refine TF.u (v := (.int .i64 _)) rfl rfl (pr_move rfl) ?_
    refine TF.u (v := (.bool _)) rfl rfl (pr_eql rfl rfl) ?_
    refine TF.u (v := (.int .i64 _)) rfl rfl (pr_move rfl) ?_
    refine TF.u (v := (.int .i64 _)) rfl rfl (pr_move rfl) ?_
    refine TF.u (v := (.bool _)) rfl rfl (pr_eql rfl rfl) ?_
    refine TF.u (v := (.bool _)) rfl rfl (pr_beql Try.underlying4 rfl rfl) ?_
    refine TF.u (v := (.bool _)) rfl rfl (pr_move rfl) ?_
    refine TF.split (dj := 89) rfl ?_ (fun hq47 => by
        have hp47 := hq47
        exfalso
        simp [dec_other hnum ok_p.len hr] at hp47)
    intro hq47
    have hp47 := hq47
    refine TF.ug (v := (.int .i64 _)) rfl rfl (wantF_yes rfl rfl rfl hq47) (pr_move rfl) ?_
    refine TF.ug (v := (.bool _)) rfl rfl (wantF_yes rfl rfl rfl hq47) (pr_eql rfl rfl) ?_
    refine TF.u (v := (.bool _)) rfl rfl (pr_pickT rfl hq47 rfl) ?_
    refine TF.u (v := (.bool _)) rfl rfl (pr_move rfl) ?_
    refine TF.split (dj := 93) rfl ?_ (fun hq49 => by
        have hp49 := dF hq49
        exfalso
        exact hp49 (dec_short hnum (by rw [List.length_take, List.drop_zero]; omega)))
    intro hq49
    have hp49 := dT hq49
    refine TF.ug (v := (.int .i64 _)) rfl rfl (wantF_yes rfl rfl rfl hq49) (pr_move rfl) ?_
    refine TF.ug (v := (.bool _)) rfl rfl (wantF_yes rfl rfl rfl hq49) (pr_eql rfl rfl) ?_
    refine TF.u (v := (.bool _)) rfl rfl (pr_pickT rfl hq49 rfl) ?_
    refine TF.u (v := (.bool _)) rfl rfl (pr_assign rfl) ?_
    refine TF.nil (nx_then ?_)
    refine cw_ret (fin1 (v := (.bool _)) Try.results6 rfl rfl ?_)
    exact ⟨by rw [dec_long hnum (by rw [List.length_append, List.length_take, List.drop_zero]; simp only [List.length_singleton]; omega)]; simp, H.base⟩
end Go.Proofs.Ytnhopkokdnbgjaa
namespace Go.Proofs.Ytnhopkokdnbgjaa
open Go.ChangeShapes Go.WideShapes Go.ChangeAt Go.RowKit
open Go.ChangeMaps (open_string shut_string)
theorem pageBack_own : ownKnob Try.prog.godebug = none := by kernel_rfl
theorem pageBack_laid : laidOutB Try.prog = true := by kernel_rfl
set_option maxRecDepth 100000 in
theorem pageBack_lifted (os : Os) (started : os.Started) (H : Type) (enc : TypeId × Value → H) :
    ReturnsInHanded {} Try.checked os 6 .any (Rows.pageBackSpec.pre6 enc Try.prog Try.f6 Rows.pageBackRow.domain false) (Rows.pageBackSpec.post enc Try.prog Try.f6 false true false false) := by
  refine returnsInHanded_of_change_sized (C := Try.checked) pageBack_own started (by kernel_rfl) Try.func6
    (ChangeSpec.witness6 (enc := enc) (C := Try.checked) false ⟨#[], #[.int .i64 0, .int .i64 0, .agg #[(.int .u64 0), (.bool false), (.string ⟨⟨[]⟩⟩), (.bool false), (.string ⟨⟨[]⟩⟩), (.bool false), (.string ⟨⟨[]⟩⟩), (.bool false), (.string ⟨⟨[]⟩⟩), (.bool false), (.string ⟨⟨[]⟩⟩), (.bool false), (.string ⟨⟨[]⟩⟩), (.bool false), (.string ⟨⟨[]⟩⟩), (.bool false), (.string ⟨⟨[]⟩⟩)]], []⟩ 8 (by kernel_rfl) (by kernel_rfl) (by kernel_rfl) (by kernel_rfl)) ?_
  intro W base args ds gs before hval0 hW hcnd hsz0 _
  have hval : ∀ (j : Nat) t v, Try.f6.params[j]? = some t → args[j]? = some v → Value.okWide Try.prog W .any base t v := hval0
  have hW' := hW
  obtain ⟨p, q, hA0, hV, rfl, hfz, hnd⟩ := hW
  have hA : DataW.TrodAll enc Try.prog W 0 (fun _ => true) true Try.f6.params.toList args.toList ds p := hA0
  have hsz : (DataW.weightsEach Try.prog (Try.f6.params.toList ++ Rows.pageBackSpec.plain.varTypes Try.prog) (ds ++ gs)).all (· ≤ reachBytes) = true := hsz0
  rw [Try.params6] at hA hval hsz
  obtain ⟨v0, vs0, d0, ds0, p0, q0, hargs, rfl, rfl, h0, r0⟩ := trodAll_cons hA
  obtain ⟨v1, vs1, d1, ds1, p1, q1, rfl, rfl, rfl, h1, r1⟩ := trodAll_cons r0
  obtain ⟨v2, vs2, d2, ds2, p2, q2, rfl, rfl, rfl, h2, r2⟩ := trodAll_cons r1
  obtain ⟨rfl, rfl, rfl⟩ := trodAll_nil r2
  obtain rfl : args = #[v0, v1, v2] := by cases args; simp_all
  obtain ⟨rfl, rfl⟩ := trodVars_none hV
  obtain ⟨a0, rfl, rfl, rfl, m0⟩ := open_int Try.underlying3 (hval 0 3 v0 rfl rfl) h0
  have z0 := bounds_i64 m0
  obtain ⟨a1, rfl, rfl, rfl, m1⟩ := open_int Try.underlying3 (hval 1 3 v1 rfl rfl) h1
  have z1 := bounds_i64 m1
  have k2 := h2
  have lt2 : ∀ x ∈ p2, x.block < W.heap.size := by obtain ⟨m, hm⟩ := k2; exact DataW.trod_lt m _ _ _ hm
  obtain ⟨fu2, hf2⟩ := h2
  obtain ⟨⟨l2⟩, rfl, hc2⟩ := okWide_struct Try.underlying27 (hval 2 27 v2 rfl rfl)
  obtain ⟨a2, hl2, ok2⟩ := Go.Q.OT.page (P := Try.prog) (t := 27) (cs := l2) ⟨fu2, _, hf2⟩ Try.underlying27 rfl Try.underlying22 Try.underlying25 Try.underlying24 rfl Try.underlying4 Try.underlying9 (by kernel_rfl)
  subst hl2
  clear hA0 hval0
  refine (PageBack_ok a0 a1 a2 W z0.1 z0.2 z1.1 z1.2 ok2).mono fun e W' ⟨he, bel⟩ => ?_
  subst he
  exact ⟨_, rfl, _, _, _, [], _, [], hW', trodAll_mk1 (shut_bool Try.underlying4 _), (trodAll_cons_mk (shut_int Try.underlying3 m0) (trodAll_cons_mk (shut_int Try.underlying3 m1) (trodAll_cons_mk (Below.trod pageBack_laid (by kernel_rfl) (of_decide_eq_true (by kernel_rfl)) k2 bel lt2) trodAll_mk0))), rfl, bel.frame _, fun h => by cases h⟩
theorem pageBack_holds : Rows.PageBackSaid :=
  OpenClaim.holds_of_wide 6 Try.f6 rfl rfl rfl rfl rfl rfl rfl ⟨rfl, rfl, rfl, rfl, rfl⟩ rfl rfl rfl rfl rfl (by kernel_rfl) Try.func6 (by kernel_rfl)
    (of_decide_eq_true (by kernel_rfl)) (by unfold Func.isWrapper; first | (rw [if_pos (by decide +kernel)]; kernel_rfl) | (rw [if_neg (by decide +kernel)]; exact ⟨rfl, rfl⟩))
    (fun os started H enc _ => pageBack_lifted os started H enc)
end Go.Proofs.Ytnhopkokdnbgjaa
