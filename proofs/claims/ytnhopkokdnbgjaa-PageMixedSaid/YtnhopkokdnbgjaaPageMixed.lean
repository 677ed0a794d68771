/- The given statement Rows.PageMixedSaid: quayside/quaysidelaw04.PageMixed returns true for all arguments, and leaves its arguments as they were. No further condition. -/
import Derived.Test.YtnhopkokdnbgjaaFns3
import Derived.Test.YtnhopkokdnbgjaaRows
import Derived.Test.YtnhopkokdnbgjaaPage2
import Derived.Test.YtnhopkokdnbgjaaArgsP
import Derived.Test.YtnhopkokdnbgjaaCore12
import Derived.Test.YtnhopkokdnbgjaaPage3
import Derived.Test.YtnhopkokdnbgjaaArgs
import Derived.WalkKit
import Derived.ProofKit
import Derived.OpenShut
import Derived.ShutString
import Derived.ChangeOld
import Derived.Below
import Derived.SizedLaws
import Derived.JoinedCond
set_option linter.unusedSimpArgs false
set_option linter.unusedVariables false
set_option maxRecDepth 10000
namespace Go.Proofs.Ytnhopkokdnbgjaa
open Go.Q Go.RowKit Go.Proofs
theorem Try.fn10 : Fnc Try.prog 10 Try.f10 := ⟨Try.func10, by kernel_rfl, by kernel_rfl⟩
theorem Try.fn15 : Fnc Try.prog 15 Try.f15 := ⟨Try.func15, by kernel_rfl, by kernel_rfl⟩
theorem PageMixed_ok (id : Int) (other : Int) (p : PG) (q : PG) (w0 : World) (hid1 : -9223372036854775808 ≤ id) (hid2 : id ≤ 9223372036854775807) (hother1 : -9223372036854775808 ≤ other) (hother2 : other ≤ 9223372036854775807) (ok_p : POk p) (ok_q : POk q) :
    Calls Try.prog 8 #[.int .i64 id, .int .i64 other, .agg ⟨pgV p⟩, .agg ⟨pgV q⟩] w0 fun e w => e = .returned (.bool true) ∧ Below w0.heap.size w0 w := by
  refine enter (args := [.int .i64 id, .int .i64 other, .agg ⟨pgV p⟩, .agg ⟨pgV q⟩]) Try.func8 rfl Try.ntmps8 rfl ?_
  have H := Sat.start w0
  refine cw_seq ?_
  -- region 0 law.go:85
  refine cw_region (clf [.X, .X, .U]) [0, 1, 2] rfl (by kernel_rfl) (by decide) ?_
  refine TF.box (v := (.agg ⟨pgV p⟩)) H rfl (Cx.xx rfl) (wantF_none rfl) rfl rfl ?_
  clear H
  intro bk1 w hltbk1 hb2 H
  refine TF.box (v := (.agg ⟨pgV q⟩)) H rfl (Cx.xx rfl) (wantF_none rfl) rfl rfl ?_
  clear H
  intro bk3 w hltbk3 hb4 H
  refine TF.u (v := (.bool _)) rfl rfl (pr_assign rfl) ?_
  refine TF.nil (nx_then ?_)
  refine cw_seq ?_
  refine cw_seq ?_
  -- region 1 law.go:86
  refine cw_region (clf [.X, .U]) [0, 1] rfl (by kernel_rfl) (by decide) ?_
  refine TF.call (args := []) Try.fn10 rfl rfl (wantF_none rfl) rfl (awake_ok _) ?_
  rintro e_ w ⟨rfl, hb5⟩
  refine ⟨_, rfl, ?_⟩
  replace H := H.below hb5
  refine TF.u (v := (.bool _)) rfl rfl (pr_not rfl) ?_
  refine TF.nil (nx_then ?_)
  refine cw_condF (t := _) rfl rfl rfl ?_
  refine cw_skip (nx_then ?_)
  refine cw_seq ?_
  -- region 3 law.go:89
  refine cw_region (clf [.U, .X, .X, .U, .U, .U, .U, .U]) [0, 1, 2, 3, 4, 5, 6, 7] rfl (by kernel_rfl) (by decide) ?_
  refine TF.u (v := (.int .i64 _)) rfl rfl (pr_move rfl) ?_
  refine TF.loadE (cs' := pgV p) rfl rfl (wantF_none rfl) (Try.ty27.s) rfl rfl (H.blk (k := 1) rfl) (pgV_len ok_p.len) (pgV_all ok_p.len) ?_
  refine TF.call (args := [(.int .i64 _), (.agg ⟨pgV p⟩)]) Try.fn11 rfl rfl (wantF_none rfl) rfl (encode_ok _ p ok_p _ (by omega) (by omega)) ?_
  rintro e_ w ⟨A6, n6, c6, rfl, hn6⟩
  refine ⟨_, rfl, ?_⟩
  replace H := H.newS hn6
  refine TF.u (v := (.tuple _)) rfl rfl (pr_move rfl) ?_
  refine TF.u (v := (.slice _ _ _)) rfl rfl (pr_extract (vs := _) rfl rfl) ?_
  refine TF.u (v := (.int .i64 _)) rfl rfl (pr_extract (vs := _) rfl rfl) ?_
  refine TF.u (v := (.slice _ _ _)) rfl rfl (pr_assign rfl) ?_
  refine TF.u (v := (.int .i64 _)) rfl rfl (pr_assign rfl) ?_
  refine TF.nil (nx_then ?_)
  refine cw_seq ?_
  -- region 4 law.go:90
  refine cw_region (clf [.U, .X, .X, .U, .U, .U, .U, .U]) [0, 1, 2, 3, 4, 5, 6, 7] rfl (by kernel_rfl) (by decide) ?_
  refine TF.u (v := (.int .i64 _)) rfl rfl (pr_move rfl) ?_
  refine TF.loadE (cs' := pgV q) rfl rfl (wantF_none rfl) (Try.ty27.s) rfl rfl (H.blk (k := 1) rfl) (pgV_len ok_q.len) (pgV_all ok_q.len) ?_
  refine TF.call (args := [(.int .i64 _), (.agg ⟨pgV q⟩)]) Try.fn11 rfl rfl (wantF_none rfl) rfl (encode_ok _ q ok_q _ (by omega) (by omega)) ?_
  rintro e_ w ⟨A8, n8, c8, rfl, hn8⟩
  refine ⟨_, rfl, ?_⟩
  replace H := H.newS hn8
  refine TF.u (v := (.tuple _)) rfl rfl (pr_move rfl) ?_
  refine TF.u (v := (.slice _ _ _)) rfl rfl (pr_extract (vs := _) rfl rfl) ?_
  refine TF.u (v := (.int .i64 _)) rfl rfl (pr_extract (vs := _) rfl rfl) ?_
  refine TF.u (v := (.slice _ _ _)) rfl rfl (pr_assign rfl) ?_
  refine TF.u (v := (.int .i64 _)) rfl rfl (pr_assign rfl) ?_
  refine TF.nil (nx_then ?_)
  refine cw_seq ?_
  refine cw_seq ?_
  -- region 5 law.go:91
  refine cw_region (clf [.U, .U, .U, .U, .U, .U, .U, .U, .X, .U, .X, .U, .U]) [0, 1, 2, 3, 4, 5, 6, 7, 8, 9, 10, 11, 12] rfl (by kernel_rfl) (by decide) ?_
  refine TF.u (v := (.int .i64 _)) rfl rfl (pr_move rfl) ?_
  refine TF.u (v := (.bool _)) rfl rfl (pr_neq rfl rfl) ?_
  refine TF.u (v := (.bool _)) rfl rfl (pr_move rfl) ?_
  refine TF.split (dj := 34) rfl (fun hq11 => ?_) (fun hq11 => ?_)
  ·
    have hp11 := dF (nT hq11)
    refine TF.skip rfl (wantF_no rfl rfl rfl hq11) ?_
    refine TF.skip rfl (wantF_no rfl rfl rfl hq11) ?_
    refine TF.u (v := (.bool _)) rfl rfl (pr_pickT rfl hq11 rfl) ?_
    refine TF.u (v := (.bool _)) rfl rfl (pr_move rfl) ?_
    refine TF.skip rfl (wantF_no rfl rfl rfl rfl) ?_
    refine TF.skip rfl (wantF_no rfl rfl rfl rfl) ?_
    refine TF.skip rfl (wantF_no rfl rfl rfl rfl) ?_
    refine TF.skip rfl (wantF_no rfl rfl rfl rfl) ?_
    refine TF.skip rfl (wantF_no rfl rfl rfl rfl) ?_
    refine TF.u (v := (.bool _)) rfl rfl (pr_pickT rfl rfl rfl) ?_
    refine TF.nil (nx_then ?_)
    refine cw_condT (t := _) rfl rfl rfl ?_
    refine cw_seq ?_
    -- region 6 law.go:92
    refine cw_region (clf [.U]) [0] rfl (by kernel_rfl) (by decide) ?_
    refine TF.u (v := (.bool _)) rfl rfl (pr_assign rfl) ?_
    refine TF.nil (nx_then ?_)
    refine cw_ret (rt_then (fin1 (v := (.bool _)) Try.results8 rfl rfl ?_))
    exact ⟨by simp, H.base⟩
  ·
    have hp11 := dT (nF hq11)
    refine TF.ug (v := (.int .i64 _)) rfl rfl (wantF_yes rfl rfl rfl hq11) (pr_move rfl) ?_
    refine TF.ug (v := (.bool _)) rfl rfl (wantF_yes rfl rfl rfl hq11) (pr_neq rfl rfl) ?_
    refine TF.u (v := (.bool _)) rfl rfl (pr_pickF rfl hq11 rfl) ?_
    refine TF.u (v := (.bool _)) rfl rfl (pr_move rfl) ?_
    refine TF.split (dj := 38) rfl (fun hq13 => ?_) (fun hq13 => ?_)
    ·
      have hp13 := dF (nT hq13)
      refine TF.skip rfl (wantF_no rfl rfl rfl hq13) ?_
      refine TF.skip rfl (wantF_no rfl rfl rfl hq13) ?_
      refine TF.skip rfl (wantF_no rfl rfl rfl hq13) ?_
      refine TF.skip rfl (wantF_no rfl rfl rfl hq13) ?_
      refine TF.skip rfl (wantF_no rfl rfl rfl hq13) ?_
      refine TF.u (v := (.bool _)) rfl rfl (pr_pickT rfl hq13 rfl) ?_
      refine TF.nil (nx_then ?_)
      refine cw_condT (t := _) rfl rfl rfl ?_
      refine cw_seq ?_
      -- region 6 law.go:92
      refine cw_region (clf [.U]) [0] rfl (by kernel_rfl) (by decide) ?_
      refine TF.u (v := (.bool _)) rfl rfl (pr_assign rfl) ?_
      refine TF.nil (nx_then ?_)
      refine cw_ret (rt_then (fin1 (v := (.bool _)) Try.results8 rfl rfl ?_))
      exact ⟨by simp, H.base⟩
    ·
      have hp13 := dT (nF hq13)
      refine TF.ug (v := (.pointer (some ⟨_, 0, none⟩))) rfl rfl (wantF_yes rfl rfl rfl hq13) (pr_field (o' := 0) Try.underlying27 rfl (Try.ty22.s) (by decide) rfl rfl) ?_
      refine TF.load (v := (.int .u64 (p.lsn : Int))) rfl rfl (wantF_yes rfl rfl rfl hq13) Try.underlying22 rfl rfl ((H.blk (k := 3) rfl).at_ rfl) ?_
      refine TF.ug (v := (.pointer (some ⟨_, 0, none⟩))) rfl rfl (wantF_yes rfl rfl rfl hq13) (pr_field (o' := 0) Try.underlying27 rfl (Try.ty22.s) (by decide) rfl rfl) ?_
      refine TF.load (v := (.int .u64 (q.lsn : Int))) rfl rfl (wantF_yes rfl rfl rfl hq13) Try.underlying22 rfl rfl ((H.blk (k := 2) rfl).at_ rfl) ?_
      refine TF.ug (v := (.bool _)) rfl rfl (wantF_yes rfl rfl rfl hq13) (pr_eql rfl rfl) ?_
      refine TF.u (v := (.bool _)) rfl rfl (pr_pickF rfl hq13 rfl) ?_
      refine TF.nil (nx_then ?_)
      refine cw_cond _ rfl rfl (fun hq15 => ?_) (fun hq15 => ?_)
      ·
        have hp15 := dT hq15
        refine cw_seq ?_
        -- region 6 law.go:92
        refine cw_region (clf [.U]) [0] rfl (by kernel_rfl) (by decide) ?_
        refine TF.u (v := (.bool _)) rfl rfl (pr_assign rfl) ?_
        refine TF.nil (nx_then ?_)
        refine cw_ret (rt_then (fin1 (v := (.bool _)) Try.results8 rfl rfl ?_))
        exact ⟨by simp, H.base⟩
      ·
        have hp15 := dF hq15
        refine cw_skip (nx_then ?_)
        refine cw_seq ?_
        -- region 7 law.go:94
        refine cw_drawS H Try.wide_ (clf [.U, .U, .U, .U, .X, .U]) [0, 1, 2, 3, 4, 5] (by kernel_rfl) (by kernel_rfl) ?_
        clear H
        intro w hbr H hB
        obtain ⟨hnum, hr, hen⟩ := encS_ok (id := id) (p := p) (by assumption)
        obtain ⟨hnum2, hr2, hen2⟩ := encS_ok (id := other) (p := q) (by assumption)
        rw [hen, hen2] at H
        obtain ⟨_, _, _, hta, hla⟩ := image_mid (id := id.toNat) ok_p.len hr
        obtain ⟨_, _, _, htb, hlb⟩ := image_mid (id := other.toNat) ok_q.len hr2
        obtain ⟨hml, hmt⟩ := mixed_torn (i := id.toNat) (j := other.toNat) ok_p ok_q hr hr2 (by omega)
        have hz := (H.rdB (k := 1) rfl).length
        have hzc := (H.rdB (k := 1) rfl).cap
        have hz2 := (H.rdB (k := 0) rfl).length
        have hzc2 := (H.rdB (k := 0) rfl).cap
        refine TF.u (v := (.slice _ _ _)) rfl rfl (pr_move rfl) ?_
        refine TF.u (v := (.slice _ _ _)) rfl rfl (pr_cut (l := 0) (h := 128) (mm := 128) Try.underlying29 (Try.ty5.s) rfl (.inl ⟨rfl, rfl⟩) (.inr ⟨_, _, rfl, rfl⟩) (.inr ⟨_, _, rfl, rfl⟩) (by omega) (by omega) (by omega) (n' := 128) (c' := 128) (by omega) (by omega)) ?_
        have hcut16 := RdB.cut (lo := 0) (hi := 128) (m := 128) (n' := 128) (c' := 128) (H.rd (k := 1) rfl) (by omega) (by omega) (by omega) (by omega) (by omega) (by omega)
        rw [List.drop_zero] at hcut16
        refine TF.u (v := (.slice _ _ _)) rfl rfl (pr_move rfl) ?_
        refine TF.u (v := (.slice _ _ _)) rfl rfl (pr_cut (l := 128) (h := n8) (mm := c8) Try.underlying29 (Try.ty5.s) rfl (.inr ⟨_, _, rfl, rfl⟩) (.inl ⟨rfl, rfl, rfl⟩) (.inl ⟨rfl, rfl⟩) (by omega) (by omega) (by omega) (n' := (n8 - 128)) (c' := (c8 - 128)) (by omega) (by omega)) ?_
        have hcut17 := RdB.cut (lo := 128) (hi := n8) (m := c8) (n' := (n8 - 128)) (c' := (c8 - 128)) (H.rd (k := 0) rfl) (by omega) (by omega) (by omega) (by omega) (by omega) (by omega)
        rw [List.take_of_length_le (by rw [List.length_drop]; omega)] at hcut17
        refine TF.appendG (v := (.slice _ _ _)) H hcut16 (by omega) (hcut16.none00 (by omega)) rfl (Cx.xx rfl) (wantF_none rfl) Try.underlying29 (Try.ty5) rfl Try.underlying29 (.inr ⟨_, rfl⟩) rfl rfl (Src.rdB hcut17) (by unfold maxLen; first | omega | (simp only [List.length_append, List.length_cons, List.length_nil]; omega)) (by first | omega | (simp only [List.length_append, List.length_cons, List.length_nil]; omega)) ?_
        clear H
        intro Aow18 cow18 w hbow18 H
        replace hB := Below.refl w.heap.size w
        replace hcut16 := hcut16.below hbow18
        replace hcut17 := hcut17.below hbow18
        replace H : Sat _ _ _ [_, _, _, _, _] := H
        rw [← u8s_app] at H
        refine TF.u (v := (.slice _ _ _)) rfl rfl (pr_assign rfl) ?_
        clear hB
        refine TF.nil (nx_then ?_)
        refine cw_seq ?_
        -- region 8 law.go:95
        refine cw_region (clf [.U, .U, .X, .U, .U, .U, .X, .X, .U]) [0, 1, 2, 3, 4, 5, 6, 7, 8] rfl (by kernel_rfl) (by decide) ?_
        refine TF.u (v := (.int .i64 _)) rfl rfl (pr_move rfl) ?_
        refine TF.u (v := (.slice _ _ _)) rfl rfl (pr_move rfl) ?_
        refine TF.call (args := [(.int .i64 _), (.slice _ _ _)]) Try.fn15 rfl rfl (wantF_none rfl) rfl (decode_ok _ _ _ _ _ _ (H.rd (k := 0) rfl) (by omega) (by omega) (by omega)) ?_
        rintro e_ w ⟨rfl, hb19⟩
        refine ⟨_, rfl, ?_⟩
        replace hcut16 := hcut16.below hb19
        replace hcut17 := hcut17.below hb19
        replace H := H.below hb19
        refine TF.u (v := (.tuple _)) rfl rfl (pr_move rfl) ?_
        refine TF.u (v := (.agg ⟨pgV ((decS id ((imageS id.toNat p).take 128 ++ (imageS other.toNat q).drop 128)).1)⟩)) rfl rfl (pr_extract (vs := _) rfl rfl) ?_
        refine TF.u (v := (.int .i64 _)) rfl rfl (pr_extract (vs := _) rfl rfl) ?_
        refine TF.alloc H rfl (Cx.xx rfl) (wantF_none rfl) (Try.ty27) rfl ?_
        clear H
        intro bk20 w hltbk20 hb21 H
        replace hcut16 := hcut16.below hb21
        replace hcut17 := hcut17.below hb21
        replace H : Sat _ _ _ (cBlk _ _ (pgV noPg) :: _) := H
        replace H : Sat _ _ _ [_, _, _, _, _, _] := H
        refine TF.storeN (q := 0) (cs' := pgV ((decS id ((imageS id.toNat p).take 128 ++ (imageS other.toNat q).drop 128)).1)) H rfl rfl rfl (wantF_none rfl) (Try.ty27.s) rfl rfl (pgV_len (decS_ok id ((imageS id.toNat p).take 128 ++ (imageS other.toNat q).drop 128)).len) (pgV_one _) (by have h_ : (pgV noPg).length = 17 := (pgV_len noPg_ok.len); omega) (store_all (pgV_len noPg_ok.len)) ?_
        clear H
        intro w ho22 H
        replace H : Sat _ _ _ [_, _, _, _, _, _] := H
        refine TF.u (v := (.int .i64 _)) rfl rfl (pr_assign rfl) ?_
        refine TF.nil (nx_then ?_)
        refine cw_seq ?_
        -- region 9 law.go:96
        refine cw_region (clf [.U, .X, .U, .U, .U, .U, .U]) [0, 1, 2, 3, 4, 5, 6] rfl (by kernel_rfl) (by decide) ?_
        refine TF.u (v := (.slice _ _ _)) rfl rfl (pr_move rfl) ?_
        refine TF.call (args := [(.slice _ _ _)]) Try.fn17 rfl rfl (wantF_none rfl) rfl (pstamp_ok _ _ _ _ _ (H.rd (k := 1) rfl) (by omega)) ?_
        rintro e_ w ⟨rfl, hb23⟩
        refine ⟨_, rfl, ?_⟩
        replace H := H.below hb23
        refine TF.u (v := (.tuple _)) rfl rfl (pr_move rfl) ?_
        refine TF.u (v := (.int .u64 _)) rfl rfl (pr_extract (vs := _) rfl rfl) ?_
        refine TF.u (v := (.bool _)) rfl rfl (pr_extract (vs := _) rfl rfl) ?_
        refine TF.u (v := (.int .u64 _)) rfl rfl (pr_assign rfl) ?_
        refine TF.u (v := (.bool _)) rfl rfl (pr_assign rfl) ?_
        refine TF.nil (nx_then ?_)
        refine cw_seq ?_
        -- region 10 law.go:97
        refine cw_region (clf [.U, .X, .U, .U, .U, .U, .U, .U, .U, .U, .U, .U, .X, .U, .U, .U, .U, .X, .U, .U, .U]) [0, 1, 2, 3, 4, 5, 6, 7, 8, 9, 10, 11, 12, 13, 14, 15, 16, 17, 18, 19, 20] rfl (by kernel_rfl) (by decide) ?_
        refine TF.u (v := (.slice _ _ _)) rfl rfl (pr_move rfl) ?_
        refine TF.call (args := [(.slice _ _ _)]) Try.fn19 rfl rfl (wantF_none rfl) rfl (ptorn_ok _ _ _ _ _ (H.rd (k := 1) rfl)) ?_
        rintro e_ w ⟨rfl, hb25⟩
        refine ⟨_, rfl, ?_⟩
        replace H := H.below hb25
        refine TF.u (v := (.bool _)) rfl rfl (pr_move rfl) ?_
        refine TF.split (dj := 63) rfl ?_ (fun hq27 => by
            have hp27 := hq27
            exfalso
            rw [hmt] at hp27; exact absurd hp27 (by decide))
        intro hq27
        have hp27 := hq27
        refine TF.ug (v := (.int .i64 _)) rfl rfl (wantF_yes rfl rfl rfl hq27) (pr_move rfl) ?_
        refine TF.ug (v := (.bool _)) rfl rfl (wantF_yes rfl rfl rfl hq27) (pr_eql rfl rfl) ?_
        refine TF.u (v := (.bool _)) rfl rfl (pr_pickT rfl hq27 rfl) ?_
        refine TF.u (v := (.bool _)) rfl rfl (pr_move rfl) ?_
        refine TF.split (dj := 67) rfl ?_ (fun hq29 => by
            have hp29 := dF hq29
            exfalso
            exact hp29 (dec_torn hnum hml hmt))
        intro hq29
        have hp29 := dT hq29
        refine TF.ug (v := (.bool _)) rfl rfl (wantF_yes rfl rfl rfl hq29) (pr_move rfl) ?_
        refine TF.ug (v := (.bool _)) rfl rfl (wantF_yes rfl rfl rfl hq29) (pr_not rfl) ?_
        refine TF.u (v := (.bool _)) rfl rfl (pr_pickT rfl hq29 rfl) ?_
        refine TF.u (v := (.bool _)) rfl rfl (pr_move rfl) ?_
        refine TF.split (dj := 71) rfl ?_ (fun hq30 => by
            have hp30 := (nF hq30)
            exfalso
            rw [stamp_torn hmt] at hp30; exact absurd hp30 (by decide))
        intro hq30
        have hp30 := (nT hq30)
        refine TF.ug (v := (.slice _ _ _)) rfl rfl (wantF_yes rfl rfl rfl (bnF (nT hq30))) (pr_move rfl) ?_
        refine TF.call (args := [(.slice _ _ _)]) Try.fn19 rfl rfl (wantF_yes rfl rfl rfl (bnF (nT hq30))) rfl (ptorn_ok _ _ _ _ _ (H.rd (k := 3) rfl)) ?_
        rintro e_ w ⟨rfl, hb31⟩
        refine ⟨_, rfl, ?_⟩
        replace H := H.below hb31
        refine TF.ug (v := (.bool _)) rfl rfl (wantF_yes rfl rfl rfl (bnF (nT hq30))) (pr_not rfl) ?_
        refine TF.u (v := (.bool _)) rfl rfl (pr_pickT rfl (bnF (nT hq30)) rfl) ?_
        refine TF.u (v := (.bool _)) rfl rfl (pr_move rfl) ?_
        refine TF.split (dj := 76) rfl ?_ (fun hq33 => by
            have hp33 := (nF hq33)
            exfalso
            rw [hta] at hp33; exact absurd hp33 (by decide))
        intro hq33
        have hp33 := (nT hq33)
        refine TF.ug (v := (.slice _ _ _)) rfl rfl (wantF_yes rfl rfl rfl (bnF (nT hq33))) (pr_move rfl) ?_
        refine TF.call (args := [(.slice _ _ _)]) Try.fn19 rfl rfl (wantF_yes rfl rfl rfl (bnF (nT hq33))) rfl (ptorn_ok _ _ _ _ _ (H.rd (k := 2) rfl)) ?_
        rintro e_ w ⟨rfl, hb34⟩
        refine ⟨_, rfl, ?_⟩
        replace H := H.below hb34
        refine TF.ug (v := (.bool _)) rfl rfl (wantF_yes rfl rfl rfl (bnF (nT hq33))) (pr_not rfl) ?_
        refine TF.u (v := (.bool _)) rfl rfl (pr_pickT rfl (bnF (nT hq33)) rfl) ?_
        refine TF.u (v := (.bool _)) rfl rfl (pr_assign rfl) ?_
        refine TF.nil (nx_then ?_)
        refine cw_ret (fin1 (v := (.bool _)) Try.results8 rfl rfl ?_)
        exact ⟨by rw [htb]; simp, H.base⟩
end Go.Proofs.Ytnhopkokdnbgjaa
namespace Go.Proofs.Ytnhopkokdnbgjaa
open Go.ChangeShapes Go.WideShapes Go.ChangeAt Go.RowKit
open Go.ChangeMaps (open_string shut_string)
theorem pageMixed_own : ownKnob Try.prog.godebug = none := by kernel_rfl
theorem pageMixed_laid : laidOutB Try.prog = true := by kernel_rfl
set_option maxRecDepth 100000 in
theorem pageMixed_lifted (os : Os) (started : os.Started) (H : Type) (enc : TypeId × Value → H) :
    ReturnsInHanded {} Try.checked os 8 .any (Rows.pageMixedSpec.pre6 enc Try.prog Try.f8 Rows.pageMixedRow.domain false) (Rows.pageMixedSpec.post enc Try.prog Try.f8 false true false false) := by
  refine returnsInHanded_of_change_sized (C := Try.checked) pageMixed_own started (by kernel_rfl) Try.func8
    (ChangeSpec.witness6 (enc := enc) (C := Try.checked) false ⟨#[], #[.int .i64 0, .int .i64 0, .agg #[(.int .u64 0), (.bool false), (.string ⟨⟨[]⟩⟩), (.bool false), (.string ⟨⟨[]⟩⟩), (.bool false), (.string ⟨⟨[]⟩⟩), (.bool false), (.string ⟨⟨[]⟩⟩), (.bool false), (.string ⟨⟨[]⟩⟩), (.bool false), (.string ⟨⟨[]⟩⟩), (.bool false), (.string ⟨⟨[]⟩⟩), (.bool false), (.string ⟨⟨[]⟩⟩)], .agg #[(.int .u64 0), (.bool false), (.string ⟨⟨[]⟩⟩), (.bool false), (.string ⟨⟨[]⟩⟩), (.bool false), (.string ⟨⟨[]⟩⟩), (.bool false), (.string ⟨⟨[]⟩⟩), (.bool false), (.string ⟨⟨[]⟩⟩), (.bool false), (.string ⟨⟨[]⟩⟩), (.bool false), (.string ⟨⟨[]⟩⟩), (.bool false), (.string ⟨⟨[]⟩⟩)]], []⟩ 8 (by kernel_rfl) (by kernel_rfl) (by kernel_rfl) (by kernel_rfl)) ?_
  intro W base args ds gs before hval0 hW hcnd hsz0 _
  have hval : ∀ (j : Nat) t v, Try.f8.params[j]? = some t → args[j]? = some v → Value.okWide Try.prog W .any base t v := hval0
  have hW' := hW
  obtain ⟨p, q, hA0, hV, rfl, hfz, hnd⟩ := hW
  have hA : DataW.TrodAll enc Try.prog W 0 (fun _ => true) true Try.f8.params.toList args.toList ds p := hA0
  have hsz : (DataW.weightsEach Try.prog (Try.f8.params.toList ++ Rows.pageMixedSpec.plain.varTypes Try.prog) (ds ++ gs)).all (· ≤ reachBytes) = true := hsz0
  rw [Try.params8] at hA hval hsz
  obtain ⟨v0, vs0, d0, ds0, p0, q0, hargs, rfl, rfl, h0, r0⟩ := trodAll_cons hA
  obtain ⟨v1, vs1, d1, ds1, p1, q1, rfl, rfl, rfl, h1, r1⟩ := trodAll_cons r0
  obtain ⟨v2, vs2, d2, ds2, p2, q2, rfl, rfl, rfl, h2, r2⟩ := trodAll_cons r1
  obtain ⟨v3, vs3, d3, ds3, p3, q3, rfl, rfl, rfl, h3, r3⟩ := trodAll_cons r2
  obtain ⟨rfl, rfl, rfl⟩ := trodAll_nil r3
  obtain rfl : args = #[v0, v1, v2, v3] := by cases args; simp_all
  obtain ⟨rfl, rfl⟩ := trodVars_none hV
  obtain ⟨a0, rfl, rfl, rfl, m0⟩ := open_int Try.underlying3 (hval 0 3 v0 rfl rfl) h0
  have z0 := bounds_i64 m0
  obtain ⟨a1, rfl, rfl, rfl, m1⟩ := open_int Try.underlying3 (hval 1 3 v1 rfl rfl) h1
  have z1 := bounds_i64 m1
  have k2 := h2
  have lt2 : ∀ x ∈ p2, x.block < W.heap.size := by obtain ⟨m, hm⟩ := k2; exact DataW.trod_lt m _ _ _ hm
  obtain ⟨fu2, hf2⟩ := h2
  obtain ⟨⟨l2⟩, rfl, hc2⟩ := okWide_struct Try.underlying27 (hval 2 27 v2 rfl rfl)
  obtain ⟨a2, hl2, ok2⟩ := Go.Q.OT.page (P := Try.prog) (t := 27) (cs := l2) ⟨fu2, _, hf2⟩ Try.underlying27 rfl Try.underlying22 Try.underlying25 Try.underlying24 rfl Try.underlying4 Try.underlying9 (by kernel_rfl)
  subst hl2
  have k3 := h3
  have lt3 : ∀ x ∈ p3, x.block < W.heap.size := by obtain ⟨m, hm⟩ := k3; exact DataW.trod_lt m _ _ _ hm
  obtain ⟨fu3, hf3⟩ := h3
  obtain ⟨⟨l3⟩, rfl, hc3⟩ := okWide_struct Try.underlying27 (hval 3 27 v3 rfl rfl)
  obtain ⟨a3, hl3, ok3⟩ := Go.Q.OT.page (P := Try.prog) (t := 27) (cs := l3) ⟨fu3, _, hf3⟩ Try.underlying27 rfl Try.underlying22 Try.underlying25 Try.underlying24 rfl Try.underlying4 Try.underlying9 (by kernel_rfl)
  subst hl3
  clear hA0 hval0
  refine (PageMixed_ok a0 a1 a2 a3 W z0.1 z0.2 z1.1 z1.2 ok2 ok3).mono fun e W' ⟨he, bel⟩ => ?_
  subst he
  exact ⟨_, rfl, _, _, _, [], _, [], hW', trodAll_mk1 (shut_bool Try.underlying4 _), (trodAll_cons_mk (shut_int Try.underlying3 m0) (trodAll_cons_mk (shut_int Try.underlying3 m1) (trodAll_cons_mk (Below.trod pageMixed_laid (by kernel_rfl) (of_decide_eq_true (by kernel_rfl)) k2 bel lt2) (trodAll_cons_mk (Below.trod pageMixed_laid (by kernel_rfl) (of_decide_eq_true (by kernel_rfl)) k3 bel lt3) trodAll_mk0)))), rfl, bel.frame _, fun h => by cases h⟩
theorem pageMixed_holds : Rows.PageMixedSaid :=
  OpenClaim.holds_of_wide 8 Try.f8 rfl rfl rfl rfl rfl rfl rfl ⟨rfl, rfl, rfl, rfl, rfl⟩ rfl rfl rfl rfl rfl (by kernel_rfl) Try.func8 (by kernel_rfl)
    (of_decide_eq_true (by kernel_rfl)) (by unfold Func.isWrapper; first | (rw [if_pos (by decide +kernel)]; kernel_rfl) | (rw [if_neg (by decide +kernel)]; exact ⟨rfl, rfl⟩))
    (fun os started H enc _ => pageMixed_lifted os started H enc)
end Go.Proofs.Ytnhopkokdnbgjaa
