/- The given statement Rows.StoreCutSaid: quayside/quaysidelaw10.StoreCut returns true for all arguments, and leaves its arguments as they were. No further condition. -/
import Derived.Test.YtpncaeadbfdflaaFns5
import Derived.Test.YtpncaeadbfdflaaRows
import Derived.Test.YtpncaeadbfdflaaPage2
import Derived.Test.YtpncaeadbfdflaaArgsP
import Derived.Test.YtpncaeadbfdflaaCore12
import Derived.Test.YtpncaeadbfdflaaPage3
import Derived.Test.YtpncaeadbfdflaaCore13
import Derived.Test.YtpncaeadbfdflaaCore14
import Derived.Test.YtpncaeadbfdflaaStore
import Derived.Test.YtpncaeadbfdflaaStoreV
import Derived.Test.YtpncaeadbfdflaaStoreR
import Derived.Test.YtpncaeadbfdflaaStoreS
import Derived.Test.YtpncaeadbfdflaaStoreL
import Derived.Test.YtpncaeadbfdflaaStoreW
import Derived.Test.YtpncaeadbfdflaaStoreX
import Derived.Test.YtpncaeadbfdflaaArgs
import Derived.WalkKit
import Derived.ProofKit
import Derived.OpenShut
import Derived.ShutString
import Derived.ChangeOld
import Derived.Below
import Derived.SizedLaws
import Derived.JoinedCond
set_option linter.unusedSimpArgs false
set_option linter.unusedVariables false
set_option maxRecDepth 10000
namespace Go.Proofs.Ytpncaeadbfdflaa
open Go.Q Go.RowKit Go.Proofs
theorem Try.fn10 : Fnc Try.prog 10 Try.f10 := ⟨Try.func10, by kernel_rfl, by kernel_rfl⟩
theorem StoreCut_ok (n1 : Nat) (n2 : Nat) (i1 : Nat) (i2 : Nat) (p : PG) (q : PG) (mask : Int) (A_mends : Option Addr) (n_mends c_mends : Nat) (mends : List (Int)) (w0 : World) (hn1 : n1 < 256) (hn2 : n2 < 256) (hi1 : i1 < 256) (hi2 : i2 < 256) (ok_p : POk p) (ok_q : POk q) (hmask1 : -9223372036854775808 ≤ mask) (hmask2 : mask ≤ 9223372036854775807) (h_mends : RdS w0 1 A_mends n_mends c_mends (mends.flatMap (fun o : Int => [(.int .i64 o)]))) (hl_mends : mends.length = n_mends) (hok_mends : ∀ o ∈ mends, -9223372036854775808 ≤ o ∧ o ≤ 9223372036854775807) :
    Calls Try.prog 6 #[.int .u8 (n1 : Int), .int .u8 (n2 : Int), .int .u8 (i1 : Int), .int .u8 (i2 : Int), .agg ⟨pgV p⟩, .agg ⟨pgV q⟩, .int .i64 mask, .slice A_mends n_mends c_mends] w0 fun e w => e = .returned (.bool true) ∧ Below w0.heap.size w0 w := by
  refine enter (args := [.int .u8 (n1 : Int), .int .u8 (n2 : Int), .int .u8 (i1 : Int), .int .u8 (i2 : Int), .agg ⟨pgV p⟩, .agg ⟨pgV q⟩, .int .i64 mask, .slice A_mends n_mends c_mends]) Try.func6 rfl Try.ntmps6 rfl ?_
  have H := Sat.start w0
  refine cw_seq ?_
  -- region 0 law.go:130
  refine cw_region (clf [.X, .X, .U]) [0, 1, 2] rfl (by kernel_rfl) (by decide) ?_
  refine TF.box (v := (.agg ⟨pgV p⟩)) H rfl (Cx.xx rfl) (wantF_none rfl) rfl rfl ?_
  clear H
  intro bk1 w hltbk1 hb2 H
  refine TF.box (v := (.agg ⟨pgV q⟩)) H rfl (Cx.xx rfl) (wantF_none rfl) rfl rfl ?_
  clear H
  intro bk3 w hltbk3 hb4 H
  refine TF.u (v := (.bool _)) rfl rfl (pr_assign rfl) ?_
  refine TF.nil (nx_then ?_)
  refine cw_seq ?_
  refine cw_seq ?_
  -- region 1 law.go:131
  refine cw_region (clf [.X, .U, .U, .X, .X, .U, .U, .U, .U, .X, .U, .U, .U, .U, .X, .U, .U, .U, .U, .U, .U, .U, .U, .U, .U, .U]) [0, 1, 2, 3, 4, 5, 6, 7, 8, 9, 10, 11, 12, 13, 14, 15, 16, 17, 18, 19, 20, 21, 22, 23, 24, 25] rfl (by kernel_rfl) (by decide) ?_
  refine TF.call (args := []) Try.fn10 rfl rfl (wantF_none rfl) rfl (awake_ok _) ?_
  rintro e_ w ⟨rfl, hb5⟩
  refine ⟨_, rfl, ?_⟩
  replace H := H.below hb5
  refine TF.u (v := (.bool _)) rfl rfl (pr_not rfl) ?_
  refine TF.u (v := (.bool _)) rfl rfl (pr_move rfl) ?_
  refine TF.loadE (cs' := pgV p) rfl rfl (wantF_yes rfl rfl rfl rfl) (Try.ty27.s) rfl rfl (H.blk (k := 1) rfl) (pgV_len ok_p.len) (pgV_all ok_p.len) ?_
  refine TF.call (args := [(.agg ⟨pgV p⟩)]) Try.fn11 rfl rfl (wantF_yes rfl rfl rfl rfl) rfl (rright_ok p ok_p _) ?_
  rintro e_ w ⟨rfl, hb6⟩
  refine ⟨_, rfl, ?_⟩
  replace H := H.below hb6
  refine TF.ug (v := (.bool _)) rfl rfl (wantF_yes rfl rfl rfl rfl) (pr_not rfl) ?_
  refine TF.u (v := (.bool _)) rfl rfl (pr_pickF rfl rfl rfl) ?_
  refine TF.u (v := (.bool _)) rfl rfl (pr_move rfl) ?_
  refine TF.split (dj := 37) rfl (fun hq8 => ?_) (fun hq8 => ?_)
  ·
    have hp8 := (nT hq8)
    refine TF.skip rfl (wantF_no rfl rfl rfl (bnF (nT hq8))) ?_
    refine TF.skip rfl (wantF_no rfl rfl rfl (bnF (nT hq8))) ?_
    refine TF.skip rfl (wantF_no rfl rfl rfl (bnF (nT hq8))) ?_
    refine TF.u (v := (.bool _)) rfl rfl (pr_pickT rfl (bnF (nT hq8)) rfl) ?_
    refine TF.u (v := (.bool _)) rfl rfl (pr_move rfl) ?_
    refine TF.skip rfl (wantF_no rfl rfl rfl rfl) ?_
    refine TF.skip rfl (wantF_no rfl rfl rfl rfl) ?_
    refine TF.skip rfl (wantF_no rfl rfl rfl rfl) ?_
    refine TF.u (v := (.bool _)) rfl rfl (pr_pickT rfl rfl rfl) ?_
    refine TF.u (v := (.bool _)) rfl rfl (pr_move rfl) ?_
    refine TF.skip rfl (wantF_no rfl rfl rfl rfl) ?_
    refine TF.skip rfl (wantF_no rfl rfl rfl rfl) ?_
    refine TF.u (v := (.bool _)) rfl rfl (pr_pickT rfl rfl rfl) ?_
    refine TF.u (v := (.bool _)) rfl rfl (pr_move rfl) ?_
    refine TF.skip rfl (wantF_no rfl rfl rfl rfl) ?_
    refine TF.skip rfl (wantF_no rfl rfl rfl rfl) ?_
    refine TF.skip rfl (wantF_no rfl rfl rfl rfl) ?_
    refine TF.u (v := (.bool _)) rfl rfl (pr_pickT rfl rfl rfl) ?_
    refine TF.nil (nx_then ?_)
    refine cw_condT (t := _) rfl rfl rfl ?_
    refine cw_seq ?_
    -- region 2 law.go:132
    refine cw_region (clf [.X, .U]) [0, 1] rfl (by kernel_rfl) (by decide) ?_
    refine TF.call (args := []) Try.fn10 rfl rfl (wantF_none rfl) rfl (awake_ok _) ?_
    rintro e_ w ⟨rfl, hb9⟩
    refine ⟨_, rfl, ?_⟩
    replace H := H.below hb9
    refine TF.u (v := (.bool _)) rfl rfl (pr_assign rfl) ?_
    refine TF.nil (nx_then ?_)
    refine cw_ret (rt_then (fin1 (v := (.bool _)) Try.results6 rfl rfl ?_))
    exact ⟨by simp, H.base⟩
  ·
    have hp8 := (nF hq8)
    refine TF.ug (v := (.pointer (some ⟨_, 0, none⟩))) rfl rfl (wantF_yes rfl rfl rfl (bnT (nF hq8))) (pr_field (o' := 0) Try.underlying27 rfl (Try.ty22.s) (by decide) rfl rfl) ?_
    refine TF.load (v := (.int .u64 (p.lsn : Int))) rfl rfl (wantF_yes rfl rfl rfl (bnT (nF hq8))) Try.underlying22 rfl rfl ((H.blk (k := 1) rfl).at_ rfl) ?_
    refine TF.ug (v := (.bool _)) rfl rfl (wantF_yes rfl rfl rfl (bnT (nF hq8))) (pr_eql rfl rfl) ?_
    refine TF.u (v := (.bool _)) rfl rfl (pr_pickF rfl (bnT (nF hq8)) rfl) ?_
    refine TF.u (v := (.bool _)) rfl rfl (pr_move rfl) ?_
    refine TF.split (dj := 42) rfl (fun hq11 => ?_) (fun hq11 => ?_)
    ·
      have hp11 := dT hq11
      refine TF.skip rfl (wantF_no rfl rfl rfl hq11) ?_
      refine TF.skip rfl (wantF_no rfl rfl rfl hq11) ?_
      refine TF.skip rfl (wantF_no rfl rfl rfl hq11) ?_
      refine TF.u (v := (.bool _)) rfl rfl (pr_pickT rfl hq11 rfl) ?_
      refine TF.u (v := (.bool _)) rfl rfl (pr_move rfl) ?_
      refine TF.skip rfl (wantF_no rfl rfl rfl rfl) ?_
      refine TF.skip rfl (wantF_no rfl rfl rfl rfl) ?_
      refine TF.u (v := (.bool _)) rfl rfl (pr_pickT rfl rfl rfl) ?_
      refine TF.u (v := (.bool _)) rfl rfl (pr_move rfl) ?_
      refine TF.skip rfl (wantF_no rfl rfl rfl rfl) ?_
      refine TF.skip rfl (wantF_no rfl rfl rfl rfl) ?_
      refine TF.skip rfl (wantF_no rfl rfl rfl rfl) ?_
      refine TF.u (v := (.bool _)) rfl rfl (pr_pickT rfl rfl rfl) ?_
      refine TF.nil (nx_then ?_)
      refine cw_condT (t := _) rfl rfl rfl ?_
      refine cw_seq ?_
      -- region 2 law.go:132
      refine cw_region (clf [.X, .U]) [0, 1] rfl (by kernel_rfl) (by decide) ?_
      refine TF.call (args := []) Try.fn10 rfl rfl (wantF_none rfl) rfl (awake_ok _) ?_
      rintro e_ w ⟨rfl, hb12⟩
      refine ⟨_, rfl, ?_⟩
      replace H := H.below hb12
      refine TF.u (v := (.bool _)) rfl rfl (pr_assign rfl) ?_
      refine TF.nil (nx_then ?_)
      refine cw_ret (rt_then (fin1 (v := (.bool _)) Try.results6 rfl rfl ?_))
      exact ⟨by simp, H.base⟩
    ·
      have hp11 := dF hq11
      refine TF.ug (v := (.int .i64 _)) rfl rfl (wantF_yes rfl rfl rfl hq11) (pr_move rfl) ?_
      refine TF.call (args := [(.int .i64 _)]) Try.fn19 rfl rfl (wantF_yes rfl rfl rfl hq11) rfl (rmask_ok _ _ (by omega) (by omega)) ?_
      rintro e_ w ⟨rfl, hb13⟩
      refine ⟨_, rfl, ?_⟩
      replace H := H.below hb13
      refine TF.ug (v := (.bool _)) rfl rfl (wantF_yes rfl rfl rfl hq11) (pr_not rfl) ?_
      refine TF.u (v := (.bool _)) rfl rfl (pr_pickF rfl hq11 rfl) ?_
      refine TF.u (v := (.bool _)) rfl rfl (pr_move rfl) ?_
      refine TF.split (dj := 47) rfl (fun hq15 => ?_) (fun hq15 => ?_)
      ·
        have hp15 := (nT hq15)
        refine TF.skip rfl (wantF_no rfl rfl rfl (bnF (nT hq15))) ?_
        refine TF.skip rfl (wantF_no rfl rfl rfl (bnF (nT hq15))) ?_
        refine TF.u (v := (.bool _)) rfl rfl (pr_pickT rfl (bnF (nT hq15)) rfl) ?_
        refine TF.u (v := (.bool _)) rfl rfl (pr_move rfl) ?_
        refine TF.skip rfl (wantF_no rfl rfl rfl rfl) ?_
        refine TF.skip rfl (wantF_no rfl rfl rfl rfl) ?_
        refine TF.skip rfl (wantF_no rfl rfl rfl rfl) ?_
        refine TF.u (v := (.bool _)) rfl rfl (pr_pickT rfl rfl rfl) ?_
        refine TF.nil (nx_then ?_)
        refine cw_condT (t := _) rfl rfl rfl ?_
        refine cw_seq ?_
        -- region 2 law.go:132
        refine cw_region (clf [.X, .U]) [0, 1] rfl (by kernel_rfl) (by decide) ?_
        refine TF.call (args := []) Try.fn10 rfl rfl (wantF_none rfl) rfl (awake_ok _) ?_
        rintro e_ w ⟨rfl, hb16⟩
        refine ⟨_, rfl, ?_⟩
        replace H := H.below hb16
        refine TF.u (v := (.bool _)) rfl rfl (pr_assign rfl) ?_
        refine TF.nil (nx_then ?_)
        refine cw_ret (rt_then (fin1 (v := (.bool _)) Try.results6 rfl rfl ?_))
        exact ⟨by simp, H.base⟩
      ·
        have hp15 := (nF hq15)
        refine TF.ug (v := (.int .i64 _)) rfl rfl (wantF_yes rfl rfl rfl (bnT (nF hq15))) (pr_move rfl) ?_
        refine TF.ug (v := (.bool _)) rfl rfl (wantF_yes rfl rfl rfl (bnT (nF hq15))) (pr_eql rfl rfl) ?_
        refine TF.u (v := (.bool _)) rfl rfl (pr_pickF rfl (bnT (nF hq15)) rfl) ?_
        refine TF.u (v := (.bool _)) rfl rfl (pr_move rfl) ?_
        refine TF.split (dj := 51) rfl (fun hq18 => ?_) (fun hq18 => ?_)
        ·
          have hp18 := dT hq18
          refine TF.skip rfl (wantF_no rfl rfl rfl hq18) ?_
          refine TF.skip rfl (wantF_no rfl rfl rfl hq18) ?_
          refine TF.skip rfl (wantF_no rfl rfl rfl hq18) ?_
          refine TF.u (v := (.bool _)) rfl rfl (pr_pickT rfl hq18 rfl) ?_
          refine TF.nil (nx_then ?_)
          refine cw_condT (t := _) rfl rfl rfl ?_
          refine cw_seq ?_
          -- region 2 law.go:132
          refine cw_region (clf [.X, .U]) [0, 1] rfl (by kernel_rfl) (by decide) ?_
          refine TF.call (args := []) Try.fn10 rfl rfl (wantF_none rfl) rfl (awake_ok _) ?_
          rintro e_ w ⟨rfl, hb19⟩
          refine ⟨_, rfl, ?_⟩
          replace H := H.below hb19
          refine TF.u (v := (.bool _)) rfl rfl (pr_assign rfl) ?_
          refine TF.nil (nx_then ?_)
          refine cw_ret (rt_then (fin1 (v := (.bool _)) Try.results6 rfl rfl ?_))
          exact ⟨by simp, H.base⟩
        ·
          have hp18 := dF hq18
          refine TF.ug (v := (.slice _ _ _)) rfl rfl (wantF_yes rfl rfl rfl hq18) (pr_move rfl) ?_
          refine TF.ug (v := (.int .i64 _)) rfl rfl (wantF_yes rfl rfl rfl hq18) (pr_len rfl Try.underlying51 rfl) ?_
          refine TF.ug (v := (.bool _)) rfl rfl (wantF_yes rfl rfl rfl hq18) (pr_gtr rfl rfl) ?_
          refine TF.u (v := (.bool _)) rfl rfl (pr_pickF rfl hq18 rfl) ?_
          refine TF.nil (nx_then ?_)
          refine cw_cond _ rfl rfl (fun hq21 => ?_) (fun hq21 => ?_)
          ·
            have hp21 := dT hq21
            refine cw_seq ?_
            -- region 2 law.go:132
            refine cw_region (clf [.X, .U]) [0, 1] rfl (by kernel_rfl) (by decide) ?_
            refine TF.call (args := []) Try.fn10 rfl rfl (wantF_none rfl) rfl (awake_ok _) ?_
            rintro e_ w ⟨rfl, hb22⟩
            refine ⟨_, rfl, ?_⟩
            replace H := H.below hb22
            refine TF.u (v := (.bool _)) rfl rfl (pr_assign rfl) ?_
            refine TF.nil (nx_then ?_)
            refine cw_ret (rt_then (fin1 (v := (.bool _)) Try.results6 rfl rfl ?_))
            exact ⟨by simp, H.base⟩
          ·
            have hp21 := dF hq21
            refine cw_skip (nx_then ?_)
            refine cw_seq ?_
            -- region 3 law.go:134
            refine cw_region (clf [.X, .U]) [0, 1] rfl (by kernel_rfl) (by decide) ?_
            refine TF.call (args := [(.int .i64 _)]) Try.fn12 rfl rfl (wantF_none rfl) rfl (snew_ok 32 _ (by omega) (by omega)) ?_
            rintro e_ w ⟨tb23, rfl, hn23, ok23⟩
            refine ⟨_, rfl, ?_⟩
            replace H := H.newC hn23
            replace H : Sat _ _ _ [_, _, _] := H
            refine TF.u (v := (.pointer (some ⟨_, 0, none⟩))) rfl rfl (pr_assign rfl) ?_
            refine TF.nil (nx_then ?_)
            refine cw_seq ?_
            refine cw_seq ?_
            -- region 4 law.go:135
            refine cw_region (clf [.U, .U]) [0, 1] rfl (by kernel_rfl) (by decide) ?_
            refine TF.u (v := (.pointer (some ⟨_, 0, none⟩))) rfl rfl (pr_move rfl) ?_
            refine TF.u (v := (.bool _)) rfl rfl (pr_peql Try.underlying30 rfl rfl) ?_
            refine TF.nil (nx_then ?_)
            refine cw_condF (t := _) rfl rfl rfl ?_
            refine cw_skip (nx_then ?_)
            refine cw_seq ?_
            -- region 6 law.go:138
            refine cw_region (clf [.U, .U, .U, .U, .U, .U, .U, .U, .U, .U, .U, .U, .U, .U, .U, .U]) [0, 1, 2, 3, 4, 5, 6, 7, 8, 9, 10, 11, 12, 13, 14, 15] rfl (by kernel_rfl) (by decide) ?_
            refine TF.u (v := (.int .u8 _)) rfl rfl (pr_move rfl) ?_
            refine TF.u (v := (.int .u8 _)) rfl rfl (pr_rem rfl rfl (by omega) (show _ = ((n1 % 8 : Nat) : Int) from (Int.ofNat_tmod _ _).symm)) ?_
            refine TF.u (v := (.int .i64 _)) rfl rfl (pr_conv Try.underlying5 Try.underlying3 rfl (IntWalk.i64_in _ (by omega))) ?_
            refine TF.u (v := (.int .u8 _)) rfl rfl (pr_move rfl) ?_
            refine TF.u (v := (.int .u8 _)) rfl rfl (pr_rem rfl rfl (by omega) (show _ = ((n2 % 8 : Nat) : Int) from (Int.ofNat_tmod _ _).symm)) ?_
            refine TF.u (v := (.int .i64 _)) rfl rfl (pr_conv Try.underlying5 Try.underlying3 rfl (IntWalk.i64_in _ (by omega))) ?_
            refine TF.u (v := (.int .u8 _)) rfl rfl (pr_move rfl) ?_
            refine TF.u (v := (.int .u8 _)) rfl rfl (pr_rem rfl rfl (by omega) (show _ = ((i1 % 32 : Nat) : Int) from (Int.ofNat_tmod _ _).symm)) ?_
            refine TF.u (v := (.int .i64 _)) rfl rfl (pr_conv Try.underlying5 Try.underlying3 rfl (IntWalk.i64_in _ (by omega))) ?_
            refine TF.u (v := (.int .u8 _)) rfl rfl (pr_move rfl) ?_
            refine TF.u (v := (.int .u8 _)) rfl rfl (pr_rem rfl rfl (by omega) (show _ = ((i2 % 32 : Nat) : Int) from (Int.ofNat_tmod _ _).symm)) ?_
            refine TF.u (v := (.int .i64 _)) rfl rfl (pr_conv Try.underlying5 Try.underlying3 rfl (IntWalk.i64_in _ (by omega))) ?_
            refine TF.u (v := (.int .i64 _)) rfl rfl (pr_assign rfl) ?_
            refine TF.u (v := (.int .i64 _)) rfl rfl (pr_assign rfl) ?_
            refine TF.u (v := (.int .i64 _)) rfl rfl (pr_assign rfl) ?_
            refine TF.u (v := (.int .i64 _)) rfl rfl (pr_assign rfl) ?_
            refine TF.nil (nx_then ?_)
            refine cw_seq ?_
            refine cw_seq ?_
            -- region 7 law.go:139
            refine cw_region (clf [.U, .U, .U, .X, .U, .X, .U, .U, .U, .U, .X, .U, .U]) [0, 1, 2, 3, 4, 5, 6, 7, 8, 9, 10, 11, 12] rfl (by kernel_rfl) (by decide) ?_
            have hr1 : rightP p = true := by assumption
            have hn1 := Nat.mod_lt n1 (show 0 < 8 by omega)
            have hn2 := Nat.mod_lt n2 (show 0 < 8 by omega)
            have hi1 := Nat.mod_lt i1 (show 0 < 32 by omega)
            have hi2 := Nat.mod_lt i2 (show 0 < 32 by omega)
            generalize n1 % 8 = n at hn1 ⊢
            generalize n2 % 8 = o at hn2 ⊢
            generalize i1 % 32 = k at hi1 ⊢
            generalize i2 % 32 = j at hi2 ⊢
            obtain ⟨s1, hs1, hso1, hC1, ⟨img_, hia_⟩, hpl1⟩ := cut_first hn1 hi1 ok_p hr1 (by omega) (show wholeP mask = true by assumption) (by assumption)
            refine TF.u (v := (.pointer (some ⟨_, 0, none⟩))) rfl rfl (pr_move rfl) ?_
            refine TF.u (v := (.int .i64 _)) rfl rfl (pr_move rfl) ?_
            refine TF.u (v := (.int .i64 _)) rfl rfl (pr_move rfl) ?_
            refine TF.loadE (cs' := pgV p) rfl rfl (wantF_none rfl) (Try.ty27.s) rfl rfl (H.blk (k := 2) rfl) (pgV_len ok_p.len) (pgV_all ok_p.len) ?_
            refine TF.u (v := (.int .i64 _)) rfl rfl (pr_move rfl) ?_
            obtain ⟨F24, hF24, hU24⟩ := H.focus (k := 0) rfl
            refine TF.call (args := [(.pointer (some ⟨_, 0, none⟩)), (.int .i64 _), (.int .i64 _), (.agg ⟨pgV p⟩), (.int .i64 _)]) Try.fn13 rfl rfl (wantF_none rfl) rfl (swrite_ok _ _ _ _ _ _ p ok_p _ hF24 ok23 (by omega) (by omega) (by omega) (by omega) (by omega) (by omega)) ?_
            rintro e_ w ⟨rfl, hu24, ok24⟩
            refine ⟨_, rfl, ?_⟩
            replace H := hU24 hu24
            replace H : Sat _ _ _ [_, _, _] := H
            refine TF.u (v := (.bool _)) rfl rfl (pr_neq rfl rfl) ?_
            refine TF.u (v := (.bool _)) rfl rfl (pr_move rfl) ?_
            refine TF.split (dj := 79) rfl (fun hq26 => by
                have hp26 := dF (nT hq26)
                exfalso
                exact hp26 (congrArg Prod.snd hs1)) ?_
            intro hq26
            have hp26 := dT (nF hq26)
            refine TF.ug (v := (.pointer (some ⟨_, 0, none⟩))) rfl rfl (wantF_yes rfl rfl rfl hq26) (pr_move rfl) ?_
            refine TF.ug (v := (.int .i64 _)) rfl rfl (wantF_yes rfl rfl rfl hq26) (pr_move rfl) ?_
            obtain ⟨F29, hF29, hU29⟩ := H.focus (k := 0) rfl
            refine TF.call (args := [(.pointer (some ⟨_, 0, none⟩)), (.int .i64 _)]) Try.fn18 rfl rfl (wantF_yes rfl rfl rfl hq26) rfl (sout_ok _ _ _ _ _ hF29 ok24 (by omega) (by omega)) ?_
            rintro e_ w ⟨rfl, hb27⟩
            refine ⟨_, rfl, ?_⟩
            replace H := H.below hb27
            refine TF.ug (v := (.bool _)) rfl rfl (wantF_yes rfl rfl rfl hq26) (pr_not rfl) ?_
            refine TF.u (v := (.bool _)) rfl rfl (pr_pickF rfl hq26 rfl) ?_
            refine TF.nil (nx_then ?_)
            refine cw_cond _ rfl rfl (fun hq30 => by
                have hp30 := (nT hq30)
                exfalso
                rw [hs1] at hp30; rw [hso1] at hp30; simp at hp30) ?_
            intro hq30
            have hp30 := (nF hq30)
            refine cw_skip (nx_then ?_)
            refine cw_seq ?_
            -- region 9 law.go:142
            refine cw_region (clf [.X, .X, .X]) [0, 1, 2] rfl (by kernel_rfl) (by decide) ?_
            rw [hs1] at H ok24
            refine TF.loadE (cs' := pgV p) rfl rfl (wantF_none rfl) (Try.ty27.s) rfl rfl (H.blk (k := 2) rfl) (pgV_len ok_p.len) (pgV_all ok_p.len) ?_
            refine TF.alloc H rfl (Cx.xx rfl) (wantF_none rfl) (Try.ty27) rfl ?_
            clear H
            intro bk31 w hltbk31 hb32 H
            replace H : Sat _ _ _ (cBlk _ _ (pgV noPg) :: _) := H
            replace H : Sat _ _ _ [_, _, _, _] := H
            refine TF.storeN (q := 0) (cs' := pgV p) H rfl rfl rfl (wantF_none rfl) (Try.ty27.s) rfl rfl (pgV_len ok_p.len) (pgV_one _) (by have h_ : (pgV noPg).length = 17 := (pgV_len noPg_ok.len); omega) (store_all (pgV_len noPg_ok.len)) ?_
            clear H
            intro w ho33 H
            replace H : Sat _ _ _ [_, _, _, _] := H
            refine TF.nil (nx_then ?_)
            refine cw_seq ?_
            -- region 10 law.go:143
            refine cw_region (clf [.U, .X]) [0, 1] rfl (by kernel_rfl) (by decide) ?_
            refine TF.u (v := (.pointer (some ⟨_, 0, none⟩))) rfl rfl (pr_field (o' := 0) Try.underlying27 rfl (Try.ty22.s) (by decide) rfl rfl) ?_
            refine TF.store (v := (.int .u64 _)) (q := 0) H rfl rfl rfl (wantF_none rfl) (Try.ty22.s) rfl rfl rfl rfl ?_
            clear H
            intro w ho34 H
            replace H : Sat _ _ _ [_, _, _, _] := H
            replace H : Sat _ _ _ [cBlk _ _ (pgV (PG.mk 4611686018427387904 p.cells)), _, _, _] := H
            refine TF.nil (nx_then ?_)
            refine cw_seq ?_
            refine cw_seq ?_
            -- region 11 law.go:144
            refine cw_region (clf [.U, .U, .U, .X, .X, .U, .U, .U, .U, .U, .X, .X, .U, .U]) [0, 1, 2, 3, 4, 5, 6, 7, 8, 9, 10, 11, 12, 13] rfl (by kernel_rfl) (by decide) ?_
            obtain ⟨hb1_, hb2_⟩ := cut_busy hC1 hia_ hi1 hn1 hr1 hn2 hi2
            refine TF.u (v := (.pointer (some ⟨_, 0, none⟩))) rfl rfl (pr_move rfl) ?_
            refine TF.u (v := (.int .i64 _)) rfl rfl (pr_move rfl) ?_
            refine TF.u (v := (.int .i64 _)) rfl rfl (pr_move rfl) ?_
            refine TF.loadE (cs' := pgV (PG.mk 4611686018427387904 p.cells)) rfl rfl (wantF_none rfl) (Try.ty27.s) rfl rfl (H.blk (k := 0) rfl) (pgV_len (ok_p.setLsn (by decide)).len) (pgV_all (ok_p.setLsn (by decide)).len) ?_
            obtain ⟨F35, hF35, hU35⟩ := H.focus (k := 1) rfl
            refine TF.call (args := [(.pointer (some ⟨_, 0, none⟩)), (.int .i64 _), (.int .i64 _), (.agg ⟨pgV (PG.mk 4611686018427387904 p.cells)⟩), (.int .i64 _)]) Try.fn13 rfl rfl (wantF_none rfl) rfl (swrite_ok _ _ _ _ _ _ (PG.mk 4611686018427387904 p.cells) (ok_p.setLsn (by decide)) _ hF35 ok24 (by omega) (by omega) (by omega) (by omega) (by omega) (by omega)) ?_
            rintro e_ w ⟨rfl, hu35, ok35⟩
            refine ⟨_, rfl, ?_⟩
            replace H := hU35 hu35
            replace H : Sat _ _ _ [_, _, _, _] := H
            refine TF.u (v := (.bool _)) rfl rfl (pr_neq rfl rfl) ?_
            refine TF.u (v := (.bool _)) rfl rfl (pr_move rfl) ?_
            refine TF.split (dj := 93) rfl (fun hq37 => by
                have hp37 := dF (nT hq37)
                exfalso
                exact hp37 (congrArg Prod.snd hb1_)) ?_
            intro hq37
            have hp37 := dT (nF hq37)
            refine TF.ug (v := (.pointer (some ⟨_, 0, none⟩))) rfl rfl (wantF_yes rfl rfl rfl hq37) (pr_move rfl) ?_
            refine TF.ug (v := (.int .i64 _)) rfl rfl (wantF_yes rfl rfl rfl hq37) (pr_move rfl) ?_
            refine TF.ug (v := (.int .i64 _)) rfl rfl (wantF_yes rfl rfl rfl hq37) (pr_move rfl) ?_
            refine TF.loadE (cs' := pgV (PG.mk 4611686018427387904 p.cells)) rfl rfl (wantF_yes rfl rfl rfl hq37) (Try.ty27.s) rfl rfl (H.blk (k := 0) rfl) (pgV_len (ok_p.setLsn (by decide)).len) (pgV_all (ok_p.setLsn (by decide)).len) ?_
            obtain ⟨F38, hF38, hU38⟩ := H.focus (k := 1) rfl
            refine TF.call (args := [(.pointer (some ⟨_, 0, none⟩)), (.int .i64 _), (.int .i64 _), (.agg ⟨pgV (PG.mk 4611686018427387904 p.cells)⟩), (.int .i64 _)]) Try.fn13 rfl rfl (wantF_yes rfl rfl rfl hq37) rfl (swrite_ok _ _ _ _ _ _ (PG.mk 4611686018427387904 p.cells) (ok_p.setLsn (by decide)) _ hF38 ok35 (by omega) (by omega) (by omega) (by omega) (by omega) (by omega)) ?_
            rintro e_ w ⟨rfl, hu38, ok38⟩
            refine ⟨_, rfl, ?_⟩
            replace H := hU38 hu38
            replace H : Sat _ _ _ [_, _, _, _] := H
            refine TF.ug (v := (.bool _)) rfl rfl (wantF_yes rfl rfl rfl hq37) (pr_neq rfl rfl) ?_
            refine TF.u (v := (.bool _)) rfl rfl (pr_pickF rfl hq37 rfl) ?_
            refine TF.nil (nx_then ?_)
            refine cw_cond _ rfl rfl (fun hq40 => by
                have hp40 := dF (nT hq40)
                exfalso
                rw [hb1_] at hp40; exact hp40 (congrArg Prod.snd hb2_)) ?_
            intro hq40
            have hp40 := dT (nF hq40)
            refine cw_skip (nx_then ?_)
            refine cw_seq ?_
            refine cw_seq ?_
            -- region 13 law.go:147
            refine cw_region (clf [.U, .U, .U, .U, .U, .U, .U, .U]) [0, 1, 2, 3, 4, 5, 6, 7] rfl (by kernel_rfl) (by decide) ?_
            simp only [hb1_, hb2_] at H ok38
            refine TF.u (v := (.int .i64 _)) rfl rfl (pr_move rfl) ?_
            refine TF.u (v := (.int .i64 _)) rfl rfl (pr_move rfl) ?_
            refine TF.u (v := (.bool _)) rfl rfl (pr_neq rfl rfl) ?_
            refine TF.u (v := (.bool _)) rfl rfl (pr_move rfl) ?_
            refine TF.split (dj := 104) rfl (fun hq42 => ?_) (fun hq42 => ?_)
            ·
              have hp42 := dF (nT hq42)
              refine TF.ug (v := (.int .i64 _)) rfl rfl (wantF_yes rfl rfl rfl hq42) (pr_move rfl) ?_
              refine TF.ug (v := (.int .i64 _)) rfl rfl (wantF_yes rfl rfl rfl hq42) (pr_move rfl) ?_
              refine TF.ug (v := (.bool _)) rfl rfl (wantF_yes rfl rfl rfl hq42) (pr_neq rfl rfl) ?_
              refine TF.u (v := (.bool _)) rfl rfl (pr_pickT rfl hq42 rfl) ?_
              refine TF.nil (nx_then ?_)
              refine cw_cond _ rfl rfl (fun hq44 => ?_) (fun hq44 => ?_)
              ·
                have hp44 := dF (nT hq44)
                refine cw_seq ?_
                -- region 14 law.go:148
                refine cw_region (clf [.X, .X, .U, .U, .X, .U, .U, .U]) [0, 1, 2, 3, 4, 5, 6, 7] rfl (by kernel_rfl) (by decide) ?_
                obtain ⟨s2, e2, hs2, hC2, hE_, hr0_, hrT_, hrF_⟩ := cut_other' hC1 hn2 hi2 (by omega) (by omega) ⟨_, hia_⟩ (hpl1 j (by omega) hi2) ok_q
                refine TF.loadE (cs' := pgV q) rfl rfl (wantF_none rfl) (Try.ty27.s) rfl rfl (H.blk (k := 2) rfl) (pgV_len ok_q.len) (pgV_all ok_q.len) ?_
                refine TF.call (args := [(.agg ⟨pgV q⟩)]) Try.fn11 rfl rfl (wantF_none rfl) rfl (rright_ok q ok_q _) ?_
                rintro e_ w ⟨rfl, hb45⟩
                refine ⟨_, rfl, ?_⟩
                replace H := H.below hb45
                refine TF.u (v := (.bool _)) rfl rfl (pr_move rfl) ?_
                refine TF.split (dj := 111) rfl (fun hq47 => ?_) (fun hq47 => ?_)
                ·
                  have hp47 := hq47
                  refine TF.ug (v := (.pointer (some ⟨_, 0, none⟩))) rfl rfl (wantF_yes rfl rfl rfl hq47) (pr_field (o' := 0) Try.underlying27 rfl (Try.ty22.s) (by decide) rfl rfl) ?_
                  refine TF.load (v := (.int .u64 (q.lsn : Int))) rfl rfl (wantF_yes rfl rfl rfl hq47) Try.underlying22 rfl rfl ((H.blk (k := 2) rfl).at_ rfl) ?_
                  refine TF.ug (v := (.bool _)) rfl rfl (wantF_yes rfl rfl rfl hq47) (pr_gtr rfl rfl) ?_
                  refine TF.u (v := (.bool _)) rfl rfl (pr_pickT rfl hq47 rfl) ?_
                  refine TF.u (v := (.bool _)) rfl rfl (pr_assign rfl) ?_
                  refine TF.nil (nx_then ?_)
                  refine cw_seq ?_
                  refine cw_seq ?_
                  -- region 15 law.go:149
                  refine cw_region (clf [.U, .U, .U, .X, .X, .U, .U, .U]) [0, 1, 2, 3, 4, 5, 6, 7] rfl (by kernel_rfl) (by decide) ?_
                  refine TF.u (v := (.pointer (some ⟨_, 0, none⟩))) rfl rfl (pr_move rfl) ?_
                  refine TF.u (v := (.int .i64 _)) rfl rfl (pr_move rfl) ?_
                  refine TF.u (v := (.int .i64 _)) rfl rfl (pr_move rfl) ?_
                  refine TF.loadE (cs' := pgV q) rfl rfl (wantF_none rfl) (Try.ty27.s) rfl rfl (H.blk (k := 2) rfl) (pgV_len ok_q.len) (pgV_all ok_q.len) ?_
                  obtain ⟨F49, hF49, hU49⟩ := H.focus (k := 1) rfl
                  refine TF.call (args := [(.pointer (some ⟨_, 0, none⟩)), (.int .i64 _), (.int .i64 _), (.agg ⟨pgV q⟩), (.int .i64 _)]) Try.fn13 rfl rfl (wantF_none rfl) rfl (swrite_ok _ _ _ _ _ _ q ok_q _ hF49 ok38 (by omega) (by omega) (by omega) (by omega) (by omega) (by omega)) ?_
                  rintro e_ w ⟨rfl, hu49, ok49⟩
                  refine ⟨_, rfl, ?_⟩
                  replace H := hU49 hu49
                  replace H : Sat _ _ _ [_, _, _, _] := H
                  refine TF.u (v := (.bool _)) rfl rfl (pr_eql rfl rfl) ?_
                  refine TF.u (v := (.bool _)) rfl rfl (pr_move rfl) ?_
                  refine TF.u (v := (.bool _)) rfl rfl (pr_bneq Try.underlying4 rfl rfl) ?_
                  refine TF.nil (nx_then ?_)
                  refine cw_cond _ rfl rfl (fun hq52 => by
                      have hp52 := hq52
                      exfalso
                      rw [hs2] at hp52; simp [hE_, *] at hp52) ?_
                  intro hq52
                  have hp52 := hq52
                  refine cw_skip (nx_then ?_)
                  refine cw_seq ?_
                  -- region 17 law.go:152
                  refine cw_region (clf [.U, .U, .X, .U, .U, .U, .X, .X, .U]) [0, 1, 2, 3, 4, 5, 6, 7, 8] rfl (by kernel_rfl) (by decide) ?_
                  rw [hs2] at H ok49
                  refine TF.u (v := (.pointer (some ⟨_, 0, none⟩))) rfl rfl (pr_move rfl) ?_
                  refine TF.u (v := (.int .i64 _)) rfl rfl (pr_move rfl) ?_
                  obtain ⟨F54, hF54, hU54⟩ := H.focus (k := 1) rfl
                  refine TF.call (args := [(.pointer (some ⟨_, 0, none⟩)), (.int .i64 _)]) Try.fn15 rfl rfl (wantF_none rfl) rfl (sread_ok _ _ _ _ _ hF54 ok49 (by omega) (by omega)) ?_
                  rintro e_ w ⟨rfl, hb53⟩
                  refine ⟨_, rfl, ?_⟩
                  replace H := H.below hb53
                  refine TF.u (v := (.tuple _)) rfl rfl (pr_move rfl) ?_
                  refine TF.u (v := (.agg ⟨pgV ((sRead s2 (j : Int)).1)⟩)) rfl rfl (pr_extract (vs := _) rfl rfl) ?_
                  refine TF.u (v := (.int .i64 _)) rfl rfl (pr_extract (vs := _) rfl rfl) ?_
                  refine TF.alloc H rfl (Cx.xx rfl) (wantF_none rfl) (Try.ty27) rfl ?_
                  clear H
                  intro bk55 w hltbk55 hb56 H
                  replace H : Sat _ _ _ (cBlk _ _ (pgV noPg) :: _) := H
                  replace H : Sat _ _ _ [_, _, _, _, _] := H
                  refine TF.storeN (q := 0) (cs' := pgV ((sRead s2 (j : Int)).1)) H rfl rfl rfl (wantF_none rfl) (Try.ty27.s) rfl rfl (pgV_len (sRead_ok ok49 _).len) (pgV_one _) (by have h_ : (pgV noPg).length = 17 := (pgV_len noPg_ok.len); omega) (store_all (pgV_len noPg_ok.len)) ?_
                  clear H
                  intro w ho57 H
                  replace H : Sat _ _ _ [_, _, _, _, _] := H
                  refine TF.u (v := (.int .i64 _)) rfl rfl (pr_assign rfl) ?_
                  refine TF.nil (nx_then ?_)
                  refine cw_seq ?_
                  -- region 18 law.go:153
                  refine cw_region (clf [.U, .U, .U, .U, .U, .X, .X, .U, .U, .U, .U, .U, .U, .U, .X, .U, .U, .U, .U]) [0, 1, 2, 3, 4, 5, 6, 7, 8, 9, 10, 11, 12, 13, 14, 15, 16, 17, 18] rfl (by kernel_rfl) (by decide) ?_
                  refine TF.u (v := (.int .i64 _)) rfl rfl (pr_move rfl) ?_
                  refine TF.u (v := (.bool _)) rfl rfl (pr_neq rfl rfl) ?_
                  refine TF.u (v := (.bool _)) rfl rfl (pr_move rfl) ?_
                  refine TF.split (dj := 132) rfl (fun hq59 => by
                      have hp59 := dF (nT hq59)
                      exfalso
                      exact hp59 hr0_) ?_
                  intro hq59
                  have hp59 := dT (nF hq59)
                  refine TF.ug (v := (.bool _)) rfl rfl (wantF_yes rfl rfl rfl hq59) (pr_move rfl) ?_
                  refine TF.ug (v := (.bool _)) rfl rfl (wantF_yes rfl rfl rfl hq59) (pr_move rfl) ?_
                  refine TF.split (dj := 134) rfl (fun hq60 => ?_) (fun hq60 => ?_)
                  ·
                    have hp60 := dT hq60
                    refine TF.loadE (cs' := pgV ((sRead s2 (j : Int)).1)) rfl rfl (wantF_yes rfl rfl rfl hq60) (Try.ty27.s) rfl rfl (H.blk (k := 0) rfl) (pgV_len (sRead_ok ok49 _).len) (pgV_all (sRead_ok ok49 _).len) ?_
                    refine TF.loadE (cs' := pgV q) rfl rfl (wantF_yes rfl rfl rfl hq60) (Try.ty27.s) rfl rfl (H.blk (k := 3) rfl) (pgV_len ok_q.len) (pgV_all ok_q.len) ?_
                    refine TF.ug (v := (.bool _)) rfl rfl (wantF_yes rfl rfl rfl hq60) (run_neqA (xs := pgV ((sRead s2 (j : Int)).1)) (ys := pgV q) (EqV.page Try.underlying27 (by kernel_rfl) rfl rfl Try.underlying24 rfl (by kernel_rfl) rfl (sRead_ok ok49 _).len ok_q.len) (by decide) (by kernel_rfl) rfl rfl) ?_
                    refine TF.ug (v := (.bool _)) rfl rfl (wantF_yes rfl rfl rfl hq59) (pr_pickT rfl hq60 rfl) ?_
                    refine TF.u (v := (.bool _)) rfl rfl (pr_pickF rfl hq59 rfl) ?_
                    refine TF.u (v := (.bool _)) rfl rfl (pr_move rfl) ?_
                    refine TF.split (dj := 140) rfl (fun hq62 => by
                        have hp62 := dF (nT hq62)
                        exfalso
                        simp_all) ?_
                    intro hq62
                    have hp62 := dT (nF hq62)
                    refine TF.ug (v := (.bool _)) rfl rfl (wantF_yes rfl rfl rfl hq62) (pr_move rfl) ?_
                    refine TF.ug (v := (.bool _)) rfl rfl (wantF_yes rfl rfl rfl hq62) (pr_not rfl) ?_
                    refine TF.ug (v := (.bool _)) rfl rfl (wantF_yes rfl rfl rfl hq62) (pr_move rfl) ?_
                    refine TF.skip rfl (wantF_no rfl rfl rfl (bnT hq60)) ?_
                    refine TF.skip rfl (wantF_no rfl rfl rfl (bnT hq60)) ?_
                    refine TF.skip rfl (wantF_no rfl rfl rfl (bnT hq60)) ?_
                    refine TF.ug (v := (.bool _)) rfl rfl (wantF_yes rfl rfl rfl hq62) (pr_pickF rfl (bnT hq60) rfl) ?_
                    refine TF.u (v := (.bool _)) rfl rfl (pr_pickF rfl hq62 rfl) ?_
                    refine TF.nil (nx_then ?_)
                    refine cw_condF (t := _) rfl rfl rfl ?_
                    refine cw_skip (nx_then ?_)
                    refine cw_seq ?_
                    refine cw_seq ?_
                    -- region 20 law.go:157
                    refine cw_region (clf [.U, .U, .U]) [0, 1, 2] rfl (by kernel_rfl) (by decide) ?_
                    skip
                    refine TF.u (v := (.slice _ _ _)) rfl rfl (pr_move rfl) ?_
                    refine TF.u (v := (.int .i64 _)) rfl rfl (pr_len rfl Try.underlying51 rfl) ?_
                    refine TF.u (v := (.int .i64 _)) rfl rfl (pr_move rfl) ?_
                    refine TF.nil (nx_then ?_)
                    refine cw_block ?_
                    refine cw_loop (fun m_q f_q w => ∃ (g_ : Nat → Value) (i : Nat) (s : SS), m_q = n_mends - i ∧ f_q = (upd (upd (upd (upd (upd (upd (upd (upd g_ 6 (.int .i64 mask)) 7 (.slice A_mends n_mends c_mends)) 12 (.pointer (some ⟨bk1, 0, none⟩))) 17 (.pointer (some ⟨tb23, 0, none⟩))) 18 (.int .i64 (n : Int))) 20 (.int .i64 (k : Int))) 150 (.int .i64 (n_mends : Int))) 151 (.int .i64 (i : Int))) ∧ Sat [] w0 w [cStore 60 65 tb23 (s), cBlk bk1 27 (pgV p)] ∧ (i ≤ n_mends) ∧ (CutI s n k (cutW mask p))) (n_mends - 0) ?_ ?_
                    ·
                      exact ⟨_, 0, _, rfl, (cutS (cutS (cutS (cutS (cutS (cutS (cutS (cutS rfl rfl) rfl) rfl) rfl) rfl) rfl) rfl) rfl), (((((H.front 4 rfl).front 3 rfl).del 2).del 2).del 2), Nat.zero_le _, hC2⟩
                    ·
                      clear H
                      rintro m_ f_ w ⟨g_, i, s, rfl, rfl, H, hi, hC⟩
                      refine cw_seq ?_
                      -- region 21 law.go:157
                      refine cw_region (clf [.U]) [0] rfl (by kernel_rfl) (by decide) ?_
                      refine TF.u (v := (.bool _)) rfl rfl (pr_lss rfl rfl) ?_
                      refine TF.nil (nx_then ?_)
                      refine cw_seq ?_
                      refine cw_cond _ rfl rfl (fun hq64 => ?_) (fun hq64 => ?_)
                      ·
                        have hp64 := dT hq64
                        refine cw_skip (nx_then ?_)
                        refine cw_seq ?_
                        refine cw_block ?_
                        refine cw_seq ?_
                        -- region 22 law.go:157
                        refine cw_region (clf [.U, .U]) [0, 1] rfl (by kernel_rfl) (by decide) ?_
                        refine TF.u (v := (.int .i64 _)) rfl rfl (pr_move rfl) ?_
                        refine TF.u (v := (.int .i64 _)) rfl rfl (pr_assign rfl) ?_
                        refine TF.nil (nx_then ?_)
                        -- region 23 law.go:158
                        refine cw_region (clf [.U, .U, .U, .U, .U, .X, .X]) [0, 1, 2, 3, 4, 5, 6] rfl (by kernel_rfl) (by decide) ?_
                        skip
                        refine TF.u (v := (.pointer (some ⟨_, 0, none⟩))) rfl rfl (pr_move rfl) ?_
                        refine TF.u (v := (.int .i64 _)) rfl rfl (pr_move rfl) ?_
                        refine TF.u (v := (.slice _ _ _)) rfl rfl (pr_move rfl) ?_
                        refine TF.u (v := (.int .i64 _)) rfl rfl (pr_move rfl) ?_
                        obtain ⟨o67, ho67⟩ : ∃ o, mends[i]? = some o := ⟨_, List.getElem?_eq_getElem (by omega)⟩
                        have hko67 := hok_mends o67 (List.mem_of_getElem? ho67)
                        refine TF.idx (h_mends.below H.base) rfl rfl (wantF_none rfl) Try.underlying51 (Try.ty3.s) rfl rfl (by omega) (by omega) ?_
                        intro p65 hc66
                        replace hc66 : ∀ j u, j < 1 → ((fun o : Int => [(.int .i64 o)]) o67)[j]? = some u → w.cell? (p65.add j) = some u := fun j u hj hu => hc66 j u hj ((flat_at (fun o : Int => [(.int .i64 o)]) 1 _ (fun _ => rfl) ho67 hj).trans hu)
                        refine TF.load (v := (.int .i64 o67)) rfl rfl (wantF_none rfl) Try.underlying3 rfl rfl (by have h_ := hc66 0 _ (by decide) rfl; rwa [add_zero] at h_) ?_
                        obtain ⟨F68, hF68, hU68⟩ := H.focus (k := 0) rfl
                        refine TF.call (args := [(.pointer (some ⟨_, 0, none⟩)), (.int .i64 _), (.int .i64 _)]) Try.fn16 rfl rfl (wantF_none rfl) rfl (smend_ok _ _ _ _ _ _ hF68 hC.pv.inv.ok (by omega) (by omega) (by omega) (by omega)) ?_
                        rintro e_ w ⟨rfl, hu68, ok68⟩
                        refine ⟨_, rfl, ?_⟩
                        replace H := hU68 hu68
                        replace H : Sat _ _ _ [_, _] := H
                        refine TF.nil (nx_block (nx_then ?_))
                        -- region 24 law.go:157
                        refine cw_region (clf [.U, .U]) [0, 1] rfl (by kernel_rfl) (by decide) ?_
                        refine TF.u (v := (.int .i64 _)) rfl rfl (pr_add rfl rfl (IntWalk.i64_in _ (by omega))) ?_
                        refine TF.u (v := (.int .i64 _)) rfl rfl (pr_move rfl) ?_
                        refine TF.nil (nx_loop (m' := n_mends - (i + 1)) (by omega) ?_)
                        exact ⟨_, i + 1, _, rfl, (cutS (cutS (cutS (cutS (cutS (cutS (cutS (cutS rfl rfl) rfl) rfl) rfl) rfl) rfl) rfl) rfl), ((H.front 1 rfl).front 1 rfl), by omega, hC.mend _ _⟩
                      ·
                        have hp64 := dF hq64
                        refine cw_exit (ex_then (ex_then (ex_here (nx_then ?_))))
                        refine cw_seq ?_
                        refine cw_seq ?_
                        -- region 25 law.go:160
                        refine cw_region (clf [.U, .U, .X, .U, .U, .U, .U, .X, .U]) [0, 1, 2, 3, 4, 5, 6, 7, 8] rfl (by kernel_rfl) (by decide) ?_
                        obtain ⟨hl1_, hl2_, hl3_⟩ := hC.last hn1 hi1
                        refine TF.u (v := (.pointer (some ⟨_, 0, none⟩))) rfl rfl (pr_move rfl) ?_
                        refine TF.u (v := (.int .i64 _)) rfl rfl (pr_move rfl) ?_
                        obtain ⟨F69, hF69, hU69⟩ := H.focus (k := 0) rfl
                        refine TF.call (args := [(.pointer (some ⟨_, 0, none⟩)), (.int .i64 _), (.int .i64 _)]) Try.fn16 rfl rfl (wantF_none rfl) rfl (smend_ok _ _ _ _ _ _ hF69 hC.pv.inv.ok (by omega) (by omega) (by omega) (by omega)) ?_
                        rintro e_ w ⟨rfl, hu69, ok69⟩
                        refine ⟨_, rfl, ?_⟩
                        replace H := hU69 hu69
                        replace H : Sat _ _ _ [_, _] := H
                        refine TF.u (v := (.bool _)) rfl rfl (pr_neq rfl rfl) ?_
                        refine TF.u (v := (.bool _)) rfl rfl (pr_move rfl) ?_
                        refine TF.split (dj := 166) rfl (fun hq71 => by
                            have hp71 := dF (nT hq71)
                            exfalso
                            exact hp71 hl1_) ?_
                        intro hq71
                        have hp71 := dT (nF hq71)
                        refine TF.ug (v := (.pointer (some ⟨_, 0, none⟩))) rfl rfl (wantF_yes rfl rfl rfl hq71) (pr_move rfl) ?_
                        refine TF.ug (v := (.int .i64 _)) rfl rfl (wantF_yes rfl rfl rfl hq71) (pr_move rfl) ?_
                        obtain ⟨F74, hF74, hU74⟩ := H.focus (k := 0) rfl
                        refine TF.call (args := [(.pointer (some ⟨_, 0, none⟩)), (.int .i64 _)]) Try.fn18 rfl rfl (wantF_yes rfl rfl rfl hq71) rfl (sout_ok _ _ _ _ _ hF74 ok69 (by omega) (by omega)) ?_
                        rintro e_ w ⟨rfl, hb72⟩
                        refine ⟨_, rfl, ?_⟩
                        replace H := H.below hb72
                        refine TF.u (v := (.bool _)) rfl rfl (pr_pickF rfl hq71 rfl) ?_
                        refine TF.nil (nx_then ?_)
                        refine cw_cond _ rfl rfl (fun hq75 => by
                            have hp75 := hq75
                            exfalso
                            rw [hl2_] at hp75; cases hp75) ?_
                        intro hq75
                        have hp75 := hq75
                        refine cw_skip (nx_then ?_)
                        refine cw_seq ?_
                        -- region 27 law.go:163
                        refine cw_region (clf [.U, .X, .X]) [0, 1, 2] rfl (by kernel_rfl) (by decide) ?_
                        refine TF.u (v := (.agg ⟨pgV noPg⟩)) rfl rfl (pr_build (cs := pgV noPg) Try.bld27 rfl rfl) ?_
                        refine TF.alloc H rfl (Cx.xx rfl) (wantF_none rfl) (Try.ty27) rfl ?_
                        clear H
                        intro bk76 w hltbk76 hb77 H
                        replace H : Sat _ _ _ (cBlk _ _ (pgV noPg) :: _) := H
                        replace H : Sat _ _ _ [_, _, _] := H
                        refine TF.storeN (q := 0) (cs' := pgV noPg) H rfl rfl rfl (wantF_none rfl) (Try.ty27.s) rfl rfl (pgV_len noPg_ok.len) (pgV_one _) (by have h_ : (pgV noPg).length = 17 := (pgV_len noPg_ok.len); omega) (store_all (pgV_len noPg_ok.len)) ?_
                        clear H
                        intro w ho78 H
                        replace H : Sat _ _ _ [_, _, _] := H
                        refine TF.nil (nx_then ?_)
                        refine cw_seq ?_
                        refine cw_seq ?_
                        -- region 28 law.go:164
                        refine cw_region (clf [.U, .U]) [0, 1] rfl (by kernel_rfl) (by decide) ?_
                        refine TF.u (v := (.int .i64 _)) rfl rfl (pr_move rfl) ?_
                        refine TF.u (v := (.bool _)) rfl rfl (pr_gtr rfl rfl) ?_
                        refine TF.nil (nx_then ?_)
                        refine cw_cond _ rfl rfl (fun hq80 => ?_) (fun hq80 => ?_)
                        ·
                          have hp80 := dT hq80
                          -- region 29 law.go:165
                          refine cw_region (clf [.X, .X]) [0, 1] rfl (by kernel_rfl) (by decide) ?_
                          refine TF.loadE (cs' := pgV p) rfl rfl (wantF_none rfl) (Try.ty27.s) rfl rfl (H.blk (k := 2) rfl) (pgV_len ok_p.len) (pgV_all ok_p.len) ?_
                          refine TF.storeN (q := 0) (cs' := pgV p) H rfl rfl rfl (wantF_none rfl) (Try.ty27.s) rfl rfl (pgV_len ok_p.len) (pgV_one _) (by have h_ : (pgV noPg).length = 17 := (pgV_len noPg_ok.len); omega) (store_all (pgV_len noPg_ok.len)) ?_
                          clear H
                          intro w ho81 H
                          replace H : Sat _ _ _ [_, _, _] := H
                          refine TF.nil (nx_then ?_)
                          refine cw_seq ?_
                          -- region 30 law.go:167
                          refine cw_region (clf [.U, .U, .X, .U, .U, .U, .X, .X, .U]) [0, 1, 2, 3, 4, 5, 6, 7, 8] rfl (by kernel_rfl) (by decide) ?_
                          refine TF.u (v := (.pointer (some ⟨_, 0, none⟩))) rfl rfl (pr_move rfl) ?_
                          refine TF.u (v := (.int .i64 _)) rfl rfl (pr_move rfl) ?_
                          obtain ⟨F83, hF83, hU83⟩ := H.focus (k := 1) rfl
                          refine TF.call (args := [(.pointer (some ⟨_, 0, none⟩)), (.int .i64 _)]) Try.fn15 rfl rfl (wantF_none rfl) rfl (sread_ok _ _ _ _ _ hF83 ok69 (by omega) (by omega)) ?_
                          rintro e_ w ⟨rfl, hb82⟩
                          refine ⟨_, rfl, ?_⟩
                          replace H := H.below hb82
                          refine TF.u (v := (.tuple _)) rfl rfl (pr_move rfl) ?_
                          refine TF.u (v := (.agg ⟨pgV ((sRead (sMend s (n : Int) 3).1 (k : Int)).1)⟩)) rfl rfl (pr_extract (vs := _) rfl rfl) ?_
                          refine TF.u (v := (.int .i64 _)) rfl rfl (pr_extract (vs := _) rfl rfl) ?_
                          refine TF.alloc H rfl (Cx.xx rfl) (wantF_none rfl) (Try.ty27) rfl ?_
                          clear H
                          intro bk84 w hltbk84 hb85 H
                          replace H : Sat _ _ _ (cBlk _ _ (pgV noPg) :: _) := H
                          replace H : Sat _ _ _ [_, _, _, _] := H
                          refine TF.storeN (q := 0) (cs' := pgV ((sRead (sMend s (n : Int) 3).1 (k : Int)).1)) H rfl rfl rfl (wantF_none rfl) (Try.ty27.s) rfl rfl (pgV_len (sRead_ok ok69 _).len) (pgV_one _) (by have h_ : (pgV noPg).length = 17 := (pgV_len noPg_ok.len); omega) (store_all (pgV_len noPg_ok.len)) ?_
                          clear H
                          intro w ho86 H
                          replace H : Sat _ _ _ [_, _, _, _] := H
                          refine TF.u (v := (.int .i64 _)) rfl rfl (pr_assign rfl) ?_
                          refine TF.nil (nx_then ?_)
                          refine cw_seq ?_
                          -- region 31 law.go:168
                          refine cw_region (clf [.U, .U, .U, .X, .X, .U, .U, .U]) [0, 1, 2, 3, 4, 5, 6, 7] rfl (by kernel_rfl) (by decide) ?_
                          refine TF.u (v := (.int .i64 _)) rfl rfl (pr_move rfl) ?_
                          refine TF.u (v := (.bool _)) rfl rfl (pr_eql rfl rfl) ?_
                          refine TF.u (v := (.bool _)) rfl rfl (pr_move rfl) ?_
                          refine TF.split (dj := 183) rfl ?_ (fun hq88 => by
                              have hp88 := dF hq88
                              exfalso
                              exact hp88 (congrArg Prod.snd hl3_))
                          intro hq88
                          have hp88 := dT hq88
                          refine TF.loadE (cs' := pgV ((sRead (sMend s (n : Int) 3).1 (k : Int)).1)) rfl rfl (wantF_yes rfl rfl rfl hq88) (Try.ty27.s) rfl rfl (H.blk (k := 0) rfl) (pgV_len (sRead_ok ok69 _).len) (pgV_all (sRead_ok ok69 _).len) ?_
                          refine TF.loadE (cs' := pgV p) rfl rfl (wantF_yes rfl rfl rfl hq88) (Try.ty27.s) rfl rfl (H.blk (k := 1) rfl) (pgV_len ok_p.len) (pgV_all ok_p.len) ?_
                          refine TF.ug (v := (.bool _)) rfl rfl (wantF_yes rfl rfl rfl hq88) (run_eqlA (xs := pgV ((sRead (sMend s (n : Int) 3).1 (k : Int)).1)) (ys := pgV p) (EqV.page Try.underlying27 (by kernel_rfl) rfl rfl Try.underlying24 rfl (by kernel_rfl) rfl (sRead_ok ok69 _).len ok_p.len) (by decide) (by kernel_rfl) rfl rfl) ?_
                          refine TF.u (v := (.bool _)) rfl rfl (pr_pickT rfl hq88 rfl) ?_
                          refine TF.u (v := (.bool _)) rfl rfl (pr_assign rfl) ?_
                          refine TF.nil (nx_then ?_)
                          refine cw_ret (fin1 (v := (.bool _)) Try.results6 rfl rfl ?_)
                          exact ⟨by rw [hl3_]; simp [cutW, *], H.base⟩
                        ·
                          have hp80 := dF hq80
                          refine cw_skip (nx_then ?_)
                          refine cw_seq ?_
                          -- region 30 law.go:167
                          refine cw_region (clf [.U, .U, .X, .U, .U, .U, .X, .X, .U]) [0, 1, 2, 3, 4, 5, 6, 7, 8] rfl (by kernel_rfl) (by decide) ?_
                          refine TF.u (v := (.pointer (some ⟨_, 0, none⟩))) rfl rfl (pr_move rfl) ?_
                          refine TF.u (v := (.int .i64 _)) rfl rfl (pr_move rfl) ?_
                          obtain ⟨F91, hF91, hU91⟩ := H.focus (k := 1) rfl
                          refine TF.call (args := [(.pointer (some ⟨_, 0, none⟩)), (.int .i64 _)]) Try.fn15 rfl rfl (wantF_none rfl) rfl (sread_ok _ _ _ _ _ hF91 ok69 (by omega) (by omega)) ?_
                          rintro e_ w ⟨rfl, hb90⟩
                          refine ⟨_, rfl, ?_⟩
                          replace H := H.below hb90
                          refine TF.u (v := (.tuple _)) rfl rfl (pr_move rfl) ?_
                          refine TF.u (v := (.agg ⟨pgV ((sRead (sMend s (n : Int) 3).1 (k : Int)).1)⟩)) rfl rfl (pr_extract (vs := _) rfl rfl) ?_
                          refine TF.u (v := (.int .i64 _)) rfl rfl (pr_extract (vs := _) rfl rfl) ?_
                          refine TF.alloc H rfl (Cx.xx rfl) (wantF_none rfl) (Try.ty27) rfl ?_
                          clear H
                          intro bk92 w hltbk92 hb93 H
                          replace H : Sat _ _ _ (cBlk _ _ (pgV noPg) :: _) := H
                          replace H : Sat _ _ _ [_, _, _, _] := H
                          refine TF.storeN (q := 0) (cs' := pgV ((sRead (sMend s (n : Int) 3).1 (k : Int)).1)) H rfl rfl rfl (wantF_none rfl) (Try.ty27.s) rfl rfl (pgV_len (sRead_ok ok69 _).len) (pgV_one _) (by have h_ : (pgV noPg).length = 17 := (pgV_len noPg_ok.len); omega) (store_all (pgV_len noPg_ok.len)) ?_
                          clear H
                          intro w ho94 H
                          replace H : Sat _ _ _ [_, _, _, _] := H
                          refine TF.u (v := (.int .i64 _)) rfl rfl (pr_assign rfl) ?_
                          refine TF.nil (nx_then ?_)
                          refine cw_seq ?_
                          -- region 31 law.go:168
                          refine cw_region (clf [.U, .U, .U, .X, .X, .U, .U, .U]) [0, 1, 2, 3, 4, 5, 6, 7] rfl (by kernel_rfl) (by decide) ?_
                          refine TF.u (v := (.int .i64 _)) rfl rfl (pr_move rfl) ?_
                          refine TF.u (v := (.bool _)) rfl rfl (pr_eql rfl rfl) ?_
                          refine TF.u (v := (.bool _)) rfl rfl (pr_move rfl) ?_
                          refine TF.split (dj := 183) rfl ?_ (fun hq96 => by
                              have hp96 := dF hq96
                              exfalso
                              exact hp96 (congrArg Prod.snd hl3_))
                          intro hq96
                          have hp96 := dT hq96
                          refine TF.loadE (cs' := pgV ((sRead (sMend s (n : Int) 3).1 (k : Int)).1)) rfl rfl (wantF_yes rfl rfl rfl hq96) (Try.ty27.s) rfl rfl (H.blk (k := 0) rfl) (pgV_len (sRead_ok ok69 _).len) (pgV_all (sRead_ok ok69 _).len) ?_
                          refine TF.loadE (cs' := pgV noPg) rfl rfl (wantF_yes rfl rfl rfl hq96) (Try.ty27.s) rfl rfl (H.blk (k := 1) rfl) (pgV_len noPg_ok.len) (pgV_all noPg_ok.len) ?_
                          refine TF.ug (v := (.bool _)) rfl rfl (wantF_yes rfl rfl rfl hq96) (run_eqlA (xs := pgV ((sRead (sMend s (n : Int) 3).1 (k : Int)).1)) (ys := pgV noPg) (EqV.page Try.underlying27 (by kernel_rfl) rfl rfl Try.underlying24 rfl (by kernel_rfl) rfl (sRead_ok ok69 _).len noPg_ok.len) (by decide) (by kernel_rfl) rfl rfl) ?_
                          refine TF.u (v := (.bool _)) rfl rfl (pr_pickT rfl hq96 rfl) ?_
                          refine TF.u (v := (.bool _)) rfl rfl (pr_assign rfl) ?_
                          refine TF.nil (nx_then ?_)
                          refine cw_ret (fin1 (v := (.bool _)) Try.results6 rfl rfl ?_)
                          exact ⟨by rw [hl3_]; simp [cutW, *], H.base⟩
                  ·
                    have hp60 := dF hq60
                    refine TF.skip rfl (wantF_no rfl rfl rfl hq60) ?_
                    refine TF.skip rfl (wantF_no rfl rfl rfl hq60) ?_
                    refine TF.skip rfl (wantF_no rfl rfl rfl hq60) ?_
                    refine TF.ug (v := (.bool _)) rfl rfl (wantF_yes rfl rfl rfl hq59) (pr_pickF rfl hq60 rfl) ?_
                    refine TF.u (v := (.bool _)) rfl rfl (pr_pickF rfl hq59 rfl) ?_
                    refine TF.u (v := (.bool _)) rfl rfl (pr_move rfl) ?_
                    refine TF.ug (v := (.bool _)) rfl rfl (wantF_yes rfl rfl rfl rfl) (pr_move rfl) ?_
                    refine TF.ug (v := (.bool _)) rfl rfl (wantF_yes rfl rfl rfl rfl) (pr_not rfl) ?_
                    refine TF.ug (v := (.bool _)) rfl rfl (wantF_yes rfl rfl rfl rfl) (pr_move rfl) ?_
                    refine TF.loadE (cs' := pgV ((sRead s2 (j : Int)).1)) rfl rfl (wantF_yes rfl rfl rfl (bnF hq60)) (Try.ty27.s) rfl rfl (H.blk (k := 0) rfl) (pgV_len (sRead_ok ok49 _).len) (pgV_all (sRead_ok ok49 _).len) ?_
                    refine TF.ug (v := (.agg ⟨pgV noPg⟩)) rfl rfl (wantF_yes rfl rfl rfl (bnF hq60)) (pr_build (cs := pgV noPg) Try.bld27 rfl rfl) ?_
                    refine TF.ug (v := (.bool _)) rfl rfl (wantF_yes rfl rfl rfl (bnF hq60)) (run_neqA (xs := pgV ((sRead s2 (j : Int)).1)) (ys := pgV noPg) (EqV.page Try.underlying27 (by kernel_rfl) rfl rfl Try.underlying24 rfl (by kernel_rfl) rfl (sRead_ok ok49 _).len noPg_ok.len) (by decide) (by kernel_rfl) rfl rfl) ?_
                    refine TF.ug (v := (.bool _)) rfl rfl (wantF_yes rfl rfl rfl rfl) (pr_pickT rfl (bnF hq60) rfl) ?_
                    refine TF.u (v := (.bool _)) rfl rfl (pr_pickF rfl rfl rfl) ?_
                    refine TF.nil (nx_then ?_)
                    refine cw_cond _ rfl rfl (fun hq99 => by
                        have hp99 := dF (nT hq99)
                        exfalso
                        simp_all) ?_
                    intro hq99
                    have hp99 := dT (nF hq99)
                    refine cw_skip (nx_then ?_)
                    refine cw_seq ?_
                    refine cw_seq ?_
                    -- region 20 law.go:157
                    refine cw_region (clf [.U, .U, .U]) [0, 1, 2] rfl (by kernel_rfl) (by decide) ?_
                    skip
                    refine TF.u (v := (.slice _ _ _)) rfl rfl (pr_move rfl) ?_
                    refine TF.u (v := (.int .i64 _)) rfl rfl (pr_len rfl Try.underlying51 rfl) ?_
                    refine TF.u (v := (.int .i64 _)) rfl rfl (pr_move rfl) ?_
                    refine TF.nil (nx_then ?_)
                    refine cw_block ?_
                    refine cw_loop (fun m_q f_q w => ∃ (g_ : Nat → Value) (i : Nat) (s : SS), m_q = n_mends - i ∧ f_q = (upd (upd (upd (upd (upd (upd (upd (upd g_ 6 (.int .i64 mask)) 7 (.slice A_mends n_mends c_mends)) 12 (.pointer (some ⟨bk1, 0, none⟩))) 17 (.pointer (some ⟨tb23, 0, none⟩))) 18 (.int .i64 (n : Int))) 20 (.int .i64 (k : Int))) 150 (.int .i64 (n_mends : Int))) 151 (.int .i64 (i : Int))) ∧ Sat [] w0 w [cStore 60 65 tb23 (s), cBlk bk1 27 (pgV p)] ∧ (i ≤ n_mends) ∧ (CutI s n k (cutW mask p))) (n_mends - 0) ?_ ?_
                    ·
                      exact ⟨_, 0, _, rfl, (cutS (cutS (cutS (cutS (cutS (cutS (cutS (cutS rfl rfl) rfl) rfl) rfl) rfl) rfl) rfl) rfl), (((((H.front 4 rfl).front 3 rfl).del 2).del 2).del 2), Nat.zero_le _, hC2⟩
                    ·
                      clear H
                      rintro m_ f_ w ⟨g_, i, s, rfl, rfl, H, hi, hC⟩
                      refine cw_seq ?_
                      -- region 21 law.go:157
                      refine cw_region (clf [.U]) [0] rfl (by kernel_rfl) (by decide) ?_
                      refine TF.u (v := (.bool _)) rfl rfl (pr_lss rfl rfl) ?_
                      refine TF.nil (nx_then ?_)
                      refine cw_seq ?_
                      refine cw_cond _ rfl rfl (fun hq101 => ?_) (fun hq101 => ?_)
                      ·
                        have hp101 := dT hq101
                        refine cw_skip (nx_then ?_)
                        refine cw_seq ?_
                        refine cw_block ?_
                        refine cw_seq ?_
                        -- region 22 law.go:157
                        refine cw_region (clf [.U, .U]) [0, 1] rfl (by kernel_rfl) (by decide) ?_
                        refine TF.u (v := (.int .i64 _)) rfl rfl (pr_move rfl) ?_
                        refine TF.u (v := (.int .i64 _)) rfl rfl (pr_assign rfl) ?_
                        refine TF.nil (nx_then ?_)
                        -- region 23 law.go:158
                        refine cw_region (clf [.U, .U, .U, .U, .U, .X, .X]) [0, 1, 2, 3, 4, 5, 6] rfl (by kernel_rfl) (by decide) ?_
                        skip
                        refine TF.u (v := (.pointer (some ⟨_, 0, none⟩))) rfl rfl (pr_move rfl) ?_
                        refine TF.u (v := (.int .i64 _)) rfl rfl (pr_move rfl) ?_
                        refine TF.u (v := (.slice _ _ _)) rfl rfl (pr_move rfl) ?_
                        refine TF.u (v := (.int .i64 _)) rfl rfl (pr_move rfl) ?_
                        obtain ⟨o104, ho104⟩ : ∃ o, mends[i]? = some o := ⟨_, List.getElem?_eq_getElem (by omega)⟩
                        have hko104 := hok_mends o104 (List.mem_of_getElem? ho104)
                        refine TF.idx (h_mends.below H.base) rfl rfl (wantF_none rfl) Try.underlying51 (Try.ty3.s) rfl rfl (by omega) (by omega) ?_
                        intro p102 hc103
                        replace hc103 : ∀ j u, j < 1 → ((fun o : Int => [(.int .i64 o)]) o104)[j]? = some u → w.cell? (p102.add j) = some u := fun j u hj hu => hc103 j u hj ((flat_at (fun o : Int => [(.int .i64 o)]) 1 _ (fun _ => rfl) ho104 hj).trans hu)
                        refine TF.load (v := (.int .i64 o104)) rfl rfl (wantF_none rfl) Try.underlying3 rfl rfl (by have h_ := hc103 0 _ (by decide) rfl; rwa [add_zero] at h_) ?_
                        obtain ⟨F105, hF105, hU105⟩ := H.focus (k := 0) rfl
                        refine TF.call (args := [(.pointer (some ⟨_, 0, none⟩)), (.int .i64 _), (.int .i64 _)]) Try.fn16 rfl rfl (wantF_none rfl) rfl (smend_ok _ _ _ _ _ _ hF105 hC.pv.inv.ok (by omega) (by omega) (by omega) (by omega)) ?_
                        rintro e_ w ⟨rfl, hu105, ok105⟩
                        refine ⟨_, rfl, ?_⟩
                        replace H := hU105 hu105
                        replace H : Sat _ _ _ [_, _] := H
                        refine TF.nil (nx_block (nx_then ?_))
                        -- region 24 law.go:157
                        refine cw_region (clf [.U, .U]) [0, 1] rfl (by kernel_rfl) (by decide) ?_
                        refine TF.u (v := (.int .i64 _)) rfl rfl (pr_add rfl rfl (IntWalk.i64_in _ (by omega))) ?_
                        refine TF.u (v := (.int .i64 _)) rfl rfl (pr_move rfl) ?_
                        refine TF.nil (nx_loop (m' := n_mends - (i + 1)) (by omega) ?_)
                        exact ⟨_, i + 1, _, rfl, (cutS (cutS (cutS (cutS (cutS (cutS (cutS (cutS rfl rfl) rfl) rfl) rfl) rfl) rfl) rfl) rfl), ((H.front 1 rfl).front 1 rfl), by omega, hC.mend _ _⟩
                      ·
                        have hp101 := dF hq101
                        refine cw_exit (ex_then (ex_then (ex_here (nx_then ?_))))
                        refine cw_seq ?_
                        refine cw_seq ?_
                        -- region 25 law.go:160
                        refine cw_region (clf [.U, .U, .X, .U, .U, .U, .U, .X, .U]) [0, 1, 2, 3, 4, 5, 6, 7, 8] rfl (by kernel_rfl) (by decide) ?_
                        obtain ⟨hl1_, hl2_, hl3_⟩ := hC.last hn1 hi1
                        refine TF.u (v := (.pointer (some ⟨_, 0, none⟩))) rfl rfl (pr_move rfl) ?_
                        refine TF.u (v := (.int .i64 _)) rfl rfl (pr_move rfl) ?_
                        obtain ⟨F106, hF106, hU106⟩ := H.focus (k := 0) rfl
                        refine TF.call (args := [(.pointer (some ⟨_, 0, none⟩)), (.int .i64 _), (.int .i64 _)]) Try.fn16 rfl rfl (wantF_none rfl) rfl (smend_ok _ _ _ _ _ _ hF106 hC.pv.inv.ok (by omega) (by omega) (by omega) (by omega)) ?_
                        rintro e_ w ⟨rfl, hu106, ok106⟩
                        refine ⟨_, rfl, ?_⟩
                        replace H := hU106 hu106
                        replace H : Sat _ _ _ [_, _] := H
                        refine TF.u (v := (.bool _)) rfl rfl (pr_neq rfl rfl) ?_
                        refine TF.u (v := (.bool _)) rfl rfl (pr_move rfl) ?_
                        refine TF.split (dj := 166) rfl (fun hq108 => by
                            have hp108 := dF (nT hq108)
                            exfalso
                            exact hp108 hl1_) ?_
                        intro hq108
                        have hp108 := dT (nF hq108)
                        refine TF.ug (v := (.pointer (some ⟨_, 0, none⟩))) rfl rfl (wantF_yes rfl rfl rfl hq108) (pr_move rfl) ?_
                        refine TF.ug (v := (.int .i64 _)) rfl rfl (wantF_yes rfl rfl rfl hq108) (pr_move rfl) ?_
                        obtain ⟨F111, hF111, hU111⟩ := H.focus (k := 0) rfl
                        refine TF.call (args := [(.pointer (some ⟨_, 0, none⟩)), (.int .i64 _)]) Try.fn18 rfl rfl (wantF_yes rfl rfl rfl hq108) rfl (sout_ok _ _ _ _ _ hF111 ok106 (by omega) (by omega)) ?_
                        rintro e_ w ⟨rfl, hb109⟩
                        refine ⟨_, rfl, ?_⟩
                        replace H := H.below hb109
                        refine TF.u (v := (.bool _)) rfl rfl (pr_pickF rfl hq108 rfl) ?_
                        refine TF.nil (nx_then ?_)
                        refine cw_cond _ rfl rfl (fun hq112 => by
                            have hp112 := hq112
                            exfalso
                            rw [hl2_] at hp112; cases hp112) ?_
                        intro hq112
                        have hp112 := hq112
                        refine cw_skip (nx_then ?_)
                        refine cw_seq ?_
                        -- region 27 law.go:163
                        refine cw_region (clf [.U, .X, .X]) [0, 1, 2] rfl (by kernel_rfl) (by decide) ?_
                        refine TF.u (v := (.agg ⟨pgV noPg⟩)) rfl rfl (pr_build (cs := pgV noPg) Try.bld27 rfl rfl) ?_
                        refine TF.alloc H rfl (Cx.xx rfl) (wantF_none rfl) (Try.ty27) rfl ?_
                        clear H
                        intro bk113 w hltbk113 hb114 H
                        replace H : Sat _ _ _ (cBlk _ _ (pgV noPg) :: _) := H
                        replace H : Sat _ _ _ [_, _, _] := H
                        refine TF.storeN (q := 0) (cs' := pgV noPg) H rfl rfl rfl (wantF_none rfl) (Try.ty27.s) rfl rfl (pgV_len noPg_ok.len) (pgV_one _) (by have h_ : (pgV noPg).length = 17 := (pgV_len noPg_ok.len); omega) (store_all (pgV_len noPg_ok.len)) ?_
                        clear H
                        intro w ho115 H
                        replace H : Sat _ _ _ [_, _, _] := H
                        refine TF.nil (nx_then ?_)
                        refine cw_seq ?_
                        refine cw_seq ?_
                        -- region 28 law.go:164
                        refine cw_region (clf [.U, .U]) [0, 1] rfl (by kernel_rfl) (by decide) ?_
                        refine TF.u (v := (.int .i64 _)) rfl rfl (pr_move rfl) ?_
                        refine TF.u (v := (.bool _)) rfl rfl (pr_gtr rfl rfl) ?_
                        refine TF.nil (nx_then ?_)
                        refine cw_cond _ rfl rfl (fun hq117 => ?_) (fun hq117 => ?_)
                        ·
                          have hp117 := dT hq117
                          -- region 29 law.go:165
                          refine cw_region (clf [.X, .X]) [0, 1] rfl (by kernel_rfl) (by decide) ?_
                          refine TF.loadE (cs' := pgV p) rfl rfl (wantF_none rfl) (Try.ty27.s) rfl rfl (H.blk (k := 2) rfl) (pgV_len ok_p.len) (pgV_all ok_p.len) ?_
                          refine TF.storeN (q := 0) (cs' := pgV p) H rfl rfl rfl (wantF_none rfl) (Try.ty27.s) rfl rfl (pgV_len ok_p.len) (pgV_one _) (by have h_ : (pgV noPg).length = 17 := (pgV_len noPg_ok.len); omega) (store_all (pgV_len noPg_ok.len)) ?_
                          clear H
                          intro w ho118 H
                          replace H : Sat _ _ _ [_, _, _] := H
                          refine TF.nil (nx_then ?_)
                          refine cw_seq ?_
                          -- region 30 law.go:167
                          refine cw_region (clf [.U, .U, .X, .U, .U, .U, .X, .X, .U]) [0, 1, 2, 3, 4, 5, 6, 7, 8] rfl (by kernel_rfl) (by decide) ?_
                          refine TF.u (v := (.pointer (some ⟨_, 0, none⟩))) rfl rfl (pr_move rfl) ?_
                          refine TF.u (v := (.int .i64 _)) rfl rfl (pr_move rfl) ?_
                          obtain ⟨F120, hF120, hU120⟩ := H.focus (k := 1) rfl
                          refine TF.call (args := [(.pointer (some ⟨_, 0, none⟩)), (.int .i64 _)]) Try.fn15 rfl rfl (wantF_none rfl) rfl (sread_ok _ _ _ _ _ hF120 ok106 (by omega) (by omega)) ?_
                          rintro e_ w ⟨rfl, hb119⟩
                          refine ⟨_, rfl, ?_⟩
                          replace H := H.below hb119
                          refine TF.u (v := (.tuple _)) rfl rfl (pr_move rfl) ?_
                          refine TF.u (v := (.agg ⟨pgV ((sRead (sMend s (n : Int) 3).1 (k : Int)).1)⟩)) rfl rfl (pr_extract (vs := _) rfl rfl) ?_
                          refine TF.u (v := (.int .i64 _)) rfl rfl (pr_extract (vs := _) rfl rfl) ?_
                          refine TF.alloc H rfl (Cx.xx rfl) (wantF_none rfl) (Try.ty27) rfl ?_
                          clear H
                          intro bk121 w hltbk121 hb122 H
                          replace H : Sat _ _ _ (cBlk _ _ (pgV noPg) :: _) := H
                          replace H : Sat _ _ _ [_, _, _, _] := H
                          refine TF.storeN (q := 0) (cs' := pgV ((sRead (sMend s (n : Int) 3).1 (k : Int)).1)) H rfl rfl rfl (wantF_none rfl) (Try.ty27.s) rfl rfl (pgV_len (sRead_ok ok106 _).len) (pgV_one _) (by have h_ : (pgV noPg).length = 17 := (pgV_len noPg_ok.len); omega) (store_all (pgV_len noPg_ok.len)) ?_
                          clear H
                          intro w ho123 H
                          replace H : Sat _ _ _ [_, _, _, _] := H
                          refine TF.u (v := (.int .i64 _)) rfl rfl (pr_assign rfl) ?_
                          refine TF.nil (nx_then ?_)
                          refine cw_seq ?_
                          -- region 31 law.go:168
                          refine cw_region (clf [.U, .U, .U, .X, .X, .U, .U, .U]) [0, 1, 2, 3, 4, 5, 6, 7] rfl (by kernel_rfl) (by decide) ?_
                          refine TF.u (v := (.int .i64 _)) rfl rfl (pr_move rfl) ?_
                          refine TF.u (v := (.bool _)) rfl rfl (pr_eql rfl rfl) ?_
                          refine TF.u (v := (.bool _)) rfl rfl (pr_move rfl) ?_
                          refine TF.split (dj := 183) rfl ?_ (fun hq125 => by
                              have hp125 := dF hq125
                              exfalso
                              exact hp125 (congrArg Prod.snd hl3_))
                          intro hq125
                          have hp125 := dT hq125
                          refine TF.loadE (cs' := pgV ((sRead (sMend s (n : Int) 3).1 (k : Int)).1)) rfl rfl (wantF_yes rfl rfl rfl hq125) (Try.ty27.s) rfl rfl (H.blk (k := 0) rfl) (pgV_len (sRead_ok ok106 _).len) (pgV_all (sRead_ok ok106 _).len) ?_
                          refine TF.loadE (cs' := pgV p) rfl rfl (wantF_yes rfl rfl rfl hq125) (Try.ty27.s) rfl rfl (H.blk (k := 1) rfl) (pgV_len ok_p.len) (pgV_all ok_p.len) ?_
                          refine TF.ug (v := (.bool _)) rfl rfl (wantF_yes rfl rfl rfl hq125) (run_eqlA (xs := pgV ((sRead (sMend s (n : Int) 3).1 (k : Int)).1)) (ys := pgV p) (EqV.page Try.underlying27 (by kernel_rfl) rfl rfl Try.underlying24 rfl (by kernel_rfl) rfl (sRead_ok ok106 _).len ok_p.len) (by decide) (by kernel_rfl) rfl rfl) ?_
                          refine TF.u (v := (.bool _)) rfl rfl (pr_pickT rfl hq125 rfl) ?_
                          refine TF.u (v := (.bool _)) rfl rfl (pr_assign rfl) ?_
                          refine TF.nil (nx_then ?_)
                          refine cw_ret (fin1 (v := (.bool _)) Try.results6 rfl rfl ?_)
                          exact ⟨by rw [hl3_]; simp [cutW, *], H.base⟩
                        ·
                          have hp117 := dF hq117
                          refine cw_skip (nx_then ?_)
                          refine cw_seq ?_
                          -- region 30 law.go:167
                          refine cw_region (clf [.U, .U, .X, .U, .U, .U, .X, .X, .U]) [0, 1, 2, 3, 4, 5, 6, 7, 8] rfl (by kernel_rfl) (by decide) ?_
                          refine TF.u (v := (.pointer (some ⟨_, 0, none⟩))) rfl rfl (pr_move rfl) ?_
                          refine TF.u (v := (.int .i64 _)) rfl rfl (pr_move rfl) ?_
                          obtain ⟨F128, hF128, hU128⟩ := H.focus (k := 1) rfl
                          refine TF.call (args := [(.pointer (some ⟨_, 0, none⟩)), (.int .i64 _)]) Try.fn15 rfl rfl (wantF_none rfl) rfl (sread_ok _ _ _ _ _ hF128 ok106 (by omega) (by omega)) ?_
                          rintro e_ w ⟨rfl, hb127⟩
                          refine ⟨_, rfl, ?_⟩
                          replace H := H.below hb127
                          refine TF.u (v := (.tuple _)) rfl rfl (pr_move rfl) ?_
                          refine TF.u (v := (.agg ⟨pgV ((sRead (sMend s (n : Int) 3).1 (k : Int)).1)⟩)) rfl rfl (pr_extract (vs := _) rfl rfl) ?_
                          refine TF.u (v := (.int .i64 _)) rfl rfl (pr_extract (vs := _) rfl rfl) ?_
                          refine TF.alloc H rfl (Cx.xx rfl) (wantF_none rfl) (Try.ty27) rfl ?_
                          clear H
                          intro bk129 w hltbk129 hb130 H
                          replace H : Sat _ _ _ (cBlk _ _ (pgV noPg) :: _) := H
                          replace H : Sat _ _ _ [_, _, _, _] := H
                          refine TF.storeN (q := 0) (cs' := pgV ((sRead (sMend s (n : Int) 3).1 (k : Int)).1)) H rfl rfl rfl (wantF_none rfl) (Try.ty27.s) rfl rfl (pgV_len (sRead_ok ok106 _).len) (pgV_one _) (by have h_ : (pgV noPg).length = 17 := (pgV_len noPg_ok.len); omega) (store_all (pgV_len noPg_ok.len)) ?_
                          clear H
                          intro w ho131 H
                          replace H : Sat _ _ _ [_, _, _, _] := H
                          refine TF.u (v := (.int .i64 _)) rfl rfl (pr_assign rfl) ?_
                          refine TF.nil (nx_then ?_)
                          refine cw_seq ?_
                          -- region 31 law.go:168
                          refine cw_region (clf [.U, .U, .U, .X, .X, .U, .U, .U]) [0, 1, 2, 3, 4, 5, 6, 7] rfl (by kernel_rfl) (by decide) ?_
                          refine TF.u (v := (.int .i64 _)) rfl rfl (pr_move rfl) ?_
                          refine TF.u (v := (.bool _)) rfl rfl (pr_eql rfl rfl) ?_
                          refine TF.u (v := (.bool _)) rfl rfl (pr_move rfl) ?_
                          refine TF.split (dj := 183) rfl ?_ (fun hq133 => by
                              have hp133 := dF hq133
                              exfalso
                              exact hp133 (congrArg Prod.snd hl3_))
                          intro hq133
                          have hp133 := dT hq133
                          refine TF.loadE (cs' := pgV ((sRead (sMend s (n : Int) 3).1 (k : Int)).1)) rfl rfl (wantF_yes rfl rfl rfl hq133) (Try.ty27.s) rfl rfl (H.blk (k := 0) rfl) (pgV_len (sRead_ok ok106 _).len) (pgV_all (sRead_ok ok106 _).len) ?_
                          refine TF.loadE (cs' := pgV noPg) rfl rfl (wantF_yes rfl rfl rfl hq133) (Try.ty27.s) rfl rfl (H.blk (k := 1) rfl) (pgV_len noPg_ok.len) (pgV_all noPg_ok.len) ?_
                          refine TF.ug (v := (.bool _)) rfl rfl (wantF_yes rfl rfl rfl hq133) (run_eqlA (xs := pgV ((sRead (sMend s (n : Int) 3).1 (k : Int)).1)) (ys := pgV noPg) (EqV.page Try.underlying27 (by kernel_rfl) rfl rfl Try.underlying24 rfl (by kernel_rfl) rfl (sRead_ok ok106 _).len noPg_ok.len) (by decide) (by kernel_rfl) rfl rfl) ?_
                          refine TF.u (v := (.bool _)) rfl rfl (pr_pickT rfl hq133 rfl) ?_
                          refine TF.u (v := (.bool _)) rfl rfl (pr_assign rfl) ?_
                          refine TF.nil (nx_then ?_)
                          refine cw_ret (fin1 (v := (.bool _)) Try.results6 rfl rfl ?_)
                          exact ⟨by rw [hl3_]; simp [cutW, *], H.base⟩
                ·
                  have hp47 := hq47
                  refine TF.skip rfl (wantF_no rfl rfl rfl hq47) ?_
                  refine TF.skip rfl (wantF_no rfl rfl rfl hq47) ?_
                  refine TF.skip rfl (wantF_no rfl rfl rfl hq47) ?_
                  refine TF.u (v := (.bool _)) rfl rfl (pr_pickF rfl hq47 rfl) ?_
                  refine TF.u (v := (.bool _)) rfl rfl (pr_assign rfl) ?_
                  refine TF.nil (nx_then ?_)
                  refine cw_seq ?_
                  refine cw_seq ?_
                  -- region 15 law.go:149
                  refine cw_region (clf [.U, .U, .U, .X, .X, .U, .U, .U]) [0, 1, 2, 3, 4, 5, 6, 7] rfl (by kernel_rfl) (by decide) ?_
                  refine TF.u (v := (.pointer (some ⟨_, 0, none⟩))) rfl rfl (pr_move rfl) ?_
                  refine TF.u (v := (.int .i64 _)) rfl rfl (pr_move rfl) ?_
                  refine TF.u (v := (.int .i64 _)) rfl rfl (pr_move rfl) ?_
                  refine TF.loadE (cs' := pgV q) rfl rfl (wantF_none rfl) (Try.ty27.s) rfl rfl (H.blk (k := 2) rfl) (pgV_len ok_q.len) (pgV_all ok_q.len) ?_
                  obtain ⟨F135, hF135, hU135⟩ := H.focus (k := 1) rfl
                  refine TF.call (args := [(.pointer (some ⟨_, 0, none⟩)), (.int .i64 _), (.int .i64 _), (.agg ⟨pgV q⟩), (.int .i64 _)]) Try.fn13 rfl rfl (wantF_none rfl) rfl (swrite_ok _ _ _ _ _ _ q ok_q _ hF135 ok38 (by omega) (by omega) (by omega) (by omega) (by omega) (by omega)) ?_
                  rintro e_ w ⟨rfl, hu135, ok135⟩
                  refine ⟨_, rfl, ?_⟩
                  replace H := hU135 hu135
                  replace H : Sat _ _ _ [_, _, _, _] := H
                  refine TF.u (v := (.bool _)) rfl rfl (pr_eql rfl rfl) ?_
                  refine TF.u (v := (.bool _)) rfl rfl (pr_move rfl) ?_
                  refine TF.u (v := (.bool _)) rfl rfl (pr_bneq Try.underlying4 rfl rfl) ?_
                  refine TF.nil (nx_then ?_)
                  refine cw_cond _ rfl rfl (fun hq138 => by
                      have hp138 := hq138
                      exfalso
                      rw [hs2] at hp138; simp [hE_, *] at hp138) ?_
                  intro hq138
                  have hp138 := hq138
                  refine cw_skip (nx_then ?_)
                  refine cw_seq ?_
                  -- region 17 law.go:152
                  refine cw_region (clf [.U, .U, .X, .U, .U, .U, .X, .X, .U]) [0, 1, 2, 3, 4, 5, 6, 7, 8] rfl (by kernel_rfl) (by decide) ?_
                  rw [hs2] at H ok135
                  refine TF.u (v := (.pointer (some ⟨_, 0, none⟩))) rfl rfl (pr_move rfl) ?_
                  refine TF.u (v := (.int .i64 _)) rfl rfl (pr_move rfl) ?_
                  obtain ⟨F140, hF140, hU140⟩ := H.focus (k := 1) rfl
                  refine TF.call (args := [(.pointer (some ⟨_, 0, none⟩)), (.int .i64 _)]) Try.fn15 rfl rfl (wantF_none rfl) rfl (sread_ok _ _ _ _ _ hF140 ok135 (by omega) (by omega)) ?_
                  rintro e_ w ⟨rfl, hb139⟩
                  refine ⟨_, rfl, ?_⟩
                  replace H := H.below hb139
                  refine TF.u (v := (.tuple _)) rfl rfl (pr_move rfl) ?_
                  refine TF.u (v := (.agg ⟨pgV ((sRead s2 (j : Int)).1)⟩)) rfl rfl (pr_extract (vs := _) rfl rfl) ?_
                  refine TF.u (v := (.int .i64 _)) rfl rfl (pr_extract (vs := _) rfl rfl) ?_
                  refine TF.alloc H rfl (Cx.xx rfl) (wantF_none rfl) (Try.ty27) rfl ?_
                  clear H
                  intro bk141 w hltbk141 hb142 H
                  replace H : Sat _ _ _ (cBlk _ _ (pgV noPg) :: _) := H
                  replace H : Sat _ _ _ [_, _, _, _, _] := H
                  refine TF.storeN (q := 0) (cs' := pgV ((sRead s2 (j : Int)).1)) H rfl rfl rfl (wantF_none rfl) (Try.ty27.s) rfl rfl (pgV_len (sRead_ok ok135 _).len) (pgV_one _) (by have h_ : (pgV noPg).length = 17 := (pgV_len noPg_ok.len); omega) (store_all (pgV_len noPg_ok.len)) ?_
                  clear H
                  intro w ho143 H
                  replace H : Sat _ _ _ [_, _, _, _, _] := H
                  refine TF.u (v := (.int .i64 _)) rfl rfl (pr_assign rfl) ?_
                  refine TF.nil (nx_then ?_)
                  refine cw_seq ?_
                  -- region 18 law.go:153
                  refine cw_region (clf [.U, .U, .U, .U, .U, .X, .X, .U, .U, .U, .U, .U, .U, .U, .X, .U, .U, .U, .U]) [0, 1, 2, 3, 4, 5, 6, 7, 8, 9, 10, 11, 12, 13, 14, 15, 16, 17, 18] rfl (by kernel_rfl) (by decide) ?_
                  refine TF.u (v := (.int .i64 _)) rfl rfl (pr_move rfl) ?_
                  refine TF.u (v := (.bool _)) rfl rfl (pr_neq rfl rfl) ?_
                  refine TF.u (v := (.bool _)) rfl rfl (pr_move rfl) ?_
                  refine TF.split (dj := 132) rfl (fun hq145 => by
                      have hp145 := dF (nT hq145)
                      exfalso
                      exact hp145 hr0_) ?_
                  intro hq145
                  have hp145 := dT (nF hq145)
                  refine TF.ug (v := (.bool _)) rfl rfl (wantF_yes rfl rfl rfl hq145) (pr_move rfl) ?_
                  refine TF.ug (v := (.bool _)) rfl rfl (wantF_yes rfl rfl rfl hq145) (pr_move rfl) ?_
                  refine TF.skip rfl (wantF_no rfl rfl rfl rfl) ?_
                  refine TF.skip rfl (wantF_no rfl rfl rfl rfl) ?_
                  refine TF.skip rfl (wantF_no rfl rfl rfl rfl) ?_
                  refine TF.ug (v := (.bool _)) rfl rfl (wantF_yes rfl rfl rfl hq145) (pr_pickF rfl rfl rfl) ?_
                  refine TF.u (v := (.bool _)) rfl rfl (pr_pickF rfl hq145 rfl) ?_
                  refine TF.u (v := (.bool _)) rfl rfl (pr_move rfl) ?_
                  refine TF.ug (v := (.bool _)) rfl rfl (wantF_yes rfl rfl rfl rfl) (pr_move rfl) ?_
                  refine TF.ug (v := (.bool _)) rfl rfl (wantF_yes rfl rfl rfl rfl) (pr_not rfl) ?_
                  refine TF.ug (v := (.bool _)) rfl rfl (wantF_yes rfl rfl rfl rfl) (pr_move rfl) ?_
                  refine TF.loadE (cs' := pgV ((sRead s2 (j : Int)).1)) rfl rfl (wantF_yes rfl rfl rfl rfl) (Try.ty27.s) rfl rfl (H.blk (k := 0) rfl) (pgV_len (sRead_ok ok135 _).len) (pgV_all (sRead_ok ok135 _).len) ?_
                  refine TF.ug (v := (.agg ⟨pgV noPg⟩)) rfl rfl (wantF_yes rfl rfl rfl rfl) (pr_build (cs := pgV noPg) Try.bld27 rfl rfl) ?_
                  refine TF.ug (v := (.bool _)) rfl rfl (wantF_yes rfl rfl rfl rfl) (run_neqA (xs := pgV ((sRead s2 (j : Int)).1)) (ys := pgV noPg) (EqV.page Try.underlying27 (by kernel_rfl) rfl rfl Try.underlying24 rfl (by kernel_rfl) rfl (sRead_ok ok135 _).len noPg_ok.len) (by decide) (by kernel_rfl) rfl rfl) ?_
                  refine TF.ug (v := (.bool _)) rfl rfl (wantF_yes rfl rfl rfl rfl) (pr_pickT rfl rfl rfl) ?_
                  refine TF.u (v := (.bool _)) rfl rfl (pr_pickF rfl rfl rfl) ?_
                  refine TF.nil (nx_then ?_)
                  refine cw_cond _ rfl rfl (fun hq147 => by
                      have hp147 := dF (nT hq147)
                      exfalso
                      simp_all) ?_
                  intro hq147
                  have hp147 := dT (nF hq147)
                  refine cw_skip (nx_then ?_)
                  refine cw_seq ?_
                  refine cw_seq ?_
                  -- region 20 law.go:157
                  refine cw_region (clf [.U, .U, .U]) [0, 1, 2] rfl (by kernel_rfl) (by decide) ?_
                  skip
                  refine TF.u (v := (.slice _ _ _)) rfl rfl (pr_move rfl) ?_
                  refine TF.u (v := (.int .i64 _)) rfl rfl (pr_len rfl Try.underlying51 rfl) ?_
                  refine TF.u (v := (.int .i64 _)) rfl rfl (pr_move rfl) ?_
                  refine TF.nil (nx_then ?_)
                  refine cw_block ?_
                  refine cw_loop (fun m_q f_q w => ∃ (g_ : Nat → Value) (i : Nat) (s : SS), m_q = n_mends - i ∧ f_q = (upd (upd (upd (upd (upd (upd (upd (upd g_ 6 (.int .i64 mask)) 7 (.slice A_mends n_mends c_mends)) 12 (.pointer (some ⟨bk1, 0, none⟩))) 17 (.pointer (some ⟨tb23, 0, none⟩))) 18 (.int .i64 (n : Int))) 20 (.int .i64 (k : Int))) 150 (.int .i64 (n_mends : Int))) 151 (.int .i64 (i : Int))) ∧ Sat [] w0 w [cStore 60 65 tb23 (s), cBlk bk1 27 (pgV p)] ∧ (i ≤ n_mends) ∧ (CutI s n k (cutW mask p))) (n_mends - 0) ?_ ?_
                  ·
                    exact ⟨_, 0, _, rfl, (cutS (cutS (cutS (cutS (cutS (cutS (cutS (cutS rfl rfl) rfl) rfl) rfl) rfl) rfl) rfl) rfl), (((((H.front 4 rfl).front 3 rfl).del 2).del 2).del 2), Nat.zero_le _, hC2⟩
                  ·
                    clear H
                    rintro m_ f_ w ⟨g_, i, s, rfl, rfl, H, hi, hC⟩
                    refine cw_seq ?_
                    -- region 21 law.go:157
                    refine cw_region (clf [.U]) [0] rfl (by kernel_rfl) (by decide) ?_
                    refine TF.u (v := (.bool _)) rfl rfl (pr_lss rfl rfl) ?_
                    refine TF.nil (nx_then ?_)
                    refine cw_seq ?_
                    refine cw_cond _ rfl rfl (fun hq149 => ?_) (fun hq149 => ?_)
                    ·
                      have hp149 := dT hq149
                      refine cw_skip (nx_then ?_)
                      refine cw_seq ?_
                      refine cw_block ?_
                      refine cw_seq ?_
                      -- region 22 law.go:157
                      refine cw_region (clf [.U, .U]) [0, 1] rfl (by kernel_rfl) (by decide) ?_
                      refine TF.u (v := (.int .i64 _)) rfl rfl (pr_move rfl) ?_
                      refine TF.u (v := (.int .i64 _)) rfl rfl (pr_assign rfl) ?_
                      refine TF.nil (nx_then ?_)
                      -- region 23 law.go:158
                      refine cw_region (clf [.U, .U, .U, .U, .U, .X, .X]) [0, 1, 2, 3, 4, 5, 6] rfl (by kernel_rfl) (by decide) ?_
                      skip
                      refine TF.u (v := (.pointer (some ⟨_, 0, none⟩))) rfl rfl (pr_move rfl) ?_
                      refine TF.u (v := (.int .i64 _)) rfl rfl (pr_move rfl) ?_
                      refine TF.u (v := (.slice _ _ _)) rfl rfl (pr_move rfl) ?_
                      refine TF.u (v := (.int .i64 _)) rfl rfl (pr_move rfl) ?_
                      obtain ⟨o152, ho152⟩ : ∃ o, mends[i]? = some o := ⟨_, List.getElem?_eq_getElem (by omega)⟩
                      have hko152 := hok_mends o152 (List.mem_of_getElem? ho152)
                      refine TF.idx (h_mends.below H.base) rfl rfl (wantF_none rfl) Try.underlying51 (Try.ty3.s) rfl rfl (by omega) (by omega) ?_
                      intro p150 hc151
                      replace hc151 : ∀ j u, j < 1 → ((fun o : Int => [(.int .i64 o)]) o152)[j]? = some u → w.cell? (p150.add j) = some u := fun j u hj hu => hc151 j u hj ((flat_at (fun o : Int => [(.int .i64 o)]) 1 _ (fun _ => rfl) ho152 hj).trans hu)
                      refine TF.load (v := (.int .i64 o152)) rfl rfl (wantF_none rfl) Try.underlying3 rfl rfl (by have h_ := hc151 0 _ (by decide) rfl; rwa [add_zero] at h_) ?_
                      obtain ⟨F153, hF153, hU153⟩ := H.focus (k := 0) rfl
                      refine TF.call (args := [(.pointer (some ⟨_, 0, none⟩)), (.int .i64 _), (.int .i64 _)]) Try.fn16 rfl rfl (wantF_none rfl) rfl (smend_ok _ _ _ _ _ _ hF153 hC.pv.inv.ok (by omega) (by omega) (by omega) (by omega)) ?_
                      rintro e_ w ⟨rfl, hu153, ok153⟩
                      refine ⟨_, rfl, ?_⟩
                      replace H := hU153 hu153
                      replace H : Sat _ _ _ [_, _] := H
                      refine TF.nil (nx_block (nx_then ?_))
                      -- region 24 law.go:157
                      refine cw_region (clf [.U, .U]) [0, 1] rfl (by kernel_rfl) (by decide) ?_
                      refine TF.u (v := (.int .i64 _)) rfl rfl (pr_add rfl rfl (IntWalk.i64_in _ (by omega))) ?_
                      refine TF.u (v := (.int .i64 _)) rfl rfl (pr_move rfl) ?_
                      refine TF.nil (nx_loop (m' := n_mends - (i + 1)) (by omega) ?_)
                      exact ⟨_, i + 1, _, rfl, (cutS (cutS (cutS (cutS (cutS (cutS (cutS (cutS rfl rfl) rfl) rfl) rfl) rfl) rfl) rfl) rfl), ((H.front 1 rfl).front 1 rfl), by omega, hC.mend _ _⟩
                    ·
                      have hp149 := dF hq149
                      refine cw_exit (ex_then (ex_then (ex_here (nx_then ?_))))
                      refine cw_seq ?_
                      refine cw_seq ?_
                      -- region 25 law.go:160
                      refine cw_region (clf [.U, .U, .X, .U, .U, .U, .U, .X, .U]) [0, 1, 2, 3, 4, 5, 6, 7, 8] rfl (by kernel_rfl) (by decide) ?_
                      obtain ⟨hl1_, hl2_, hl3_⟩ := hC.last hn1 hi1
                      refine TF.u (v := (.pointer (some ⟨_, 0, none⟩))) rfl rfl (pr_move rfl) ?_
                      refine TF.u (v := (.int .i64 _)) rfl rfl (pr_move rfl) ?_
                      obtain ⟨F154, hF154, hU154⟩ := H.focus (k := 0) rfl
                      refine TF.call (args := [(.pointer (some ⟨_, 0, none⟩)), (.int .i64 _), (.int .i64 _)]) Try.fn16 rfl rfl (wantF_none rfl) rfl (smend_ok _ _ _ _ _ _ hF154 hC.pv.inv.ok (by omega) (by omega) (by omega) (by omega)) ?_
                      rintro e_ w ⟨rfl, hu154, ok154⟩
                      refine ⟨_, rfl, ?_⟩
                      replace H := hU154 hu154
                      replace H : Sat _ _ _ [_, _] := H
                      refine TF.u (v := (.bool _)) rfl rfl (pr_neq rfl rfl) ?_
                      refine TF.u (v := (.bool _)) rfl rfl (pr_move rfl) ?_
                      refine TF.split (dj := 166) rfl (fun hq156 => by
                          have hp156 := dF (nT hq156)
                          exfalso
                          exact hp156 hl1_) ?_
                      intro hq156
                      have hp156 := dT (nF hq156)
                      refine TF.ug (v := (.pointer (some ⟨_, 0, none⟩))) rfl rfl (wantF_yes rfl rfl rfl hq156) (pr_move rfl) ?_
                      refine TF.ug (v := (.int .i64 _)) rfl rfl (wantF_yes rfl rfl rfl hq156) (pr_move rfl) ?_
                      obtain ⟨F159, hF159, hU159⟩ := H.focus (k := 0) rfl
                      refine TF.call (args := [(.pointer (some ⟨_, 0, none⟩)), (.int .i64 _)]) Try.fn18 rfl rfl (wantF_yes rfl rfl rfl hq156) rfl (sout_ok _ _ _ _ _ hF159 ok154 (by omega) (by omega)) ?_
                      rintro e_ w ⟨rfl, hb157⟩
                      refine ⟨_, rfl, ?_⟩
                      replace H := H.below hb157
                      refine TF.u (v := (.bool _)) rfl rfl (pr_pickF rfl hq156 rfl) ?_
                      refine TF.nil (nx_then ?_)
                      refine cw_cond _ rfl rfl (fun hq160 => by
                          have hp160 := hq160
                          exfalso
                          rw [hl2_] at hp160; cases hp160) ?_
                      intro hq160
                      have hp160 := hq160
                      refine cw_skip (nx_then ?_)
                      refine cw_seq ?_
                      -- region 27 law.go:163
                      refine cw_region (clf [.U, .X, .X]) [0, 1, 2] rfl (by kernel_rfl) (by decide) ?_
                      refine TF.u (v := (.agg ⟨pgV noPg⟩)) rfl rfl (pr_build (cs := pgV noPg) Try.bld27 rfl rfl) ?_
                      refine TF.alloc H rfl (Cx.xx rfl) (wantF_none rfl) (Try.ty27) rfl ?_
                      clear H
                      intro bk161 w hltbk161 hb162 H
                      replace H : Sat _ _ _ (cBlk _ _ (pgV noPg) :: _) := H
                      replace H : Sat _ _ _ [_, _, _] := H
                      refine TF.storeN (q := 0) (cs' := pgV noPg) H rfl rfl rfl (wantF_none rfl) (Try.ty27.s) rfl rfl (pgV_len noPg_ok.len) (pgV_one _) (by have h_ : (pgV noPg).length = 17 := (pgV_len noPg_ok.len); omega) (store_all (pgV_len noPg_ok.len)) ?_
                      clear H
                      intro w ho163 H
                      replace H : Sat _ _ _ [_, _, _] := H
                      refine TF.nil (nx_then ?_)
                      refine cw_seq ?_
                      refine cw_seq ?_
                      -- region 28 law.go:164
                      refine cw_region (clf [.U, .U]) [0, 1] rfl (by kernel_rfl) (by decide) ?_
                      refine TF.u (v := (.int .i64 _)) rfl rfl (pr_move rfl) ?_
                      refine TF.u (v := (.bool _)) rfl rfl (pr_gtr rfl rfl) ?_
                      refine TF.nil (nx_then ?_)
                      refine cw_cond _ rfl rfl (fun hq165 => ?_) (fun hq165 => ?_)
                      ·
                        have hp165 := dT hq165
                        -- region 29 law.go:165
                        refine cw_region (clf [.X, .X]) [0, 1] rfl (by kernel_rfl) (by decide) ?_
                        refine TF.loadE (cs' := pgV p) rfl rfl (wantF_none rfl) (Try.ty27.s) rfl rfl (H.blk (k := 2) rfl) (pgV_len ok_p.len) (pgV_all ok_p.len) ?_
                        refine TF.storeN (q := 0) (cs' := pgV p) H rfl rfl rfl (wantF_none rfl) (Try.ty27.s) rfl rfl (pgV_len ok_p.len) (pgV_one _) (by have h_ : (pgV noPg).length = 17 := (pgV_len noPg_ok.len); omega) (store_all (pgV_len noPg_ok.len)) ?_
                        clear H
                        intro w ho166 H
                        replace H : Sat _ _ _ [_, _, _] := H
                        refine TF.nil (nx_then ?_)
                        refine cw_seq ?_
                        -- region 30 law.go:167
                        refine cw_region (clf [.U, .U, .X, .U, .U, .U, .X, .X, .U]) [0, 1, 2, 3, 4, 5, 6, 7, 8] rfl (by kernel_rfl) (by decide) ?_
                        refine TF.u (v := (.pointer (some ⟨_, 0, none⟩))) rfl rfl (pr_move rfl) ?_
                        refine TF.u (v := (.int .i64 _)) rfl rfl (pr_move rfl) ?_
                        obtain ⟨F168, hF168, hU168⟩ := H.focus (k := 1) rfl
                        refine TF.call (args := [(.pointer (some ⟨_, 0, none⟩)), (.int .i64 _)]) Try.fn15 rfl rfl (wantF_none rfl) rfl (sread_ok _ _ _ _ _ hF168 ok154 (by omega) (by omega)) ?_
                        rintro e_ w ⟨rfl, hb167⟩
                        refine ⟨_, rfl, ?_⟩
                        replace H := H.below hb167
                        refine TF.u (v := (.tuple _)) rfl rfl (pr_move rfl) ?_
                        refine TF.u (v := (.agg ⟨pgV ((sRead (sMend s (n : Int) 3).1 (k : Int)).1)⟩)) rfl rfl (pr_extract (vs := _) rfl rfl) ?_
                        refine TF.u (v := (.int .i64 _)) rfl rfl (pr_extract (vs := _) rfl rfl) ?_
                        refine TF.alloc H rfl (Cx.xx rfl) (wantF_none rfl) (Try.ty27) rfl ?_
                        clear H
                        intro bk169 w hltbk169 hb170 H
                        replace H : Sat _ _ _ (cBlk _ _ (pgV noPg) :: _) := H
                        replace H : Sat _ _ _ [_, _, _, _] := H
                        refine TF.storeN (q := 0) (cs' := pgV ((sRead (sMend s (n : Int) 3).1 (k : Int)).1)) H rfl rfl rfl (wantF_none rfl) (Try.ty27.s) rfl rfl (pgV_len (sRead_ok ok154 _).len) (pgV_one _) (by have h_ : (pgV noPg).length = 17 := (pgV_len noPg_ok.len); omega) (store_all (pgV_len noPg_ok.len)) ?_
                        clear H
                        intro w ho171 H
                        replace H : Sat _ _ _ [_, _, _, _] := H
                        refine TF.u (v := (.int .i64 _)) rfl rfl (pr_assign rfl) ?_
                        refine TF.nil (nx_then ?_)
                        refine cw_seq ?_
                        -- region 31 law.go:168
                        refine cw_region (clf [.U, .U, .U, .X, .X, .U, .U, .U]) [0, 1, 2, 3, 4, 5, 6, 7] rfl (by kernel_rfl) (by decide) ?_
                        refine TF.u (v := (.int .i64 _)) rfl rfl (pr_move rfl) ?_
                        refine TF.u (v := (.bool _)) rfl rfl (pr_eql rfl rfl) ?_
                        refine TF.u (v := (.bool _)) rfl rfl (pr_move rfl) ?_
                        refine TF.split (dj := 183) rfl ?_ (fun hq173 => by
                            have hp173 := dF hq173
                            exfalso
                            exact hp173 (congrArg Prod.snd hl3_))
                        intro hq173
                        have hp173 := dT hq173
                        refine TF.loadE (cs' := pgV ((sRead (sMend s (n : Int) 3).1 (k : Int)).1)) rfl rfl (wantF_yes rfl rfl rfl hq173) (Try.ty27.s) rfl rfl (H.blk (k := 0) rfl) (pgV_len (sRead_ok ok154 _).len) (pgV_all (sRead_ok ok154 _).len) ?_
                        refine TF.loadE (cs' := pgV p) rfl rfl (wantF_yes rfl rfl rfl hq173) (Try.ty27.s) rfl rfl (H.blk (k := 1) rfl) (pgV_len ok_p.len) (pgV_all ok_p.len) ?_
                        refine TF.ug (v := (.bool _)) rfl rfl (wantF_yes rfl rfl rfl hq173) (run_eqlA (xs := pgV ((sRead (sMend s (n : Int) 3).1 (k : Int)).1)) (ys := pgV p) (EqV.page Try.underlying27 (by kernel_rfl) rfl rfl Try.underlying24 rfl (by kernel_rfl) rfl (sRead_ok ok154 _).len ok_p.len) (by decide) (by kernel_rfl) rfl rfl) ?_
                        refine TF.u (v := (.bool _)) rfl rfl (pr_pickT rfl hq173 rfl) ?_
                        refine TF.u (v := (.bool _)) rfl rfl (pr_assign rfl) ?_
                        refine TF.nil (nx_then ?_)
                        refine cw_ret (fin1 (v := (.bool _)) Try.results6 rfl rfl ?_)
                        exact ⟨by rw [hl3_]; simp [cutW, *], H.base⟩
                      ·
                        have hp165 := dF hq165
                        refine cw_skip (nx_then ?_)
                        refine cw_seq ?_
                        -- region 30 law.go:167
                        refine cw_region (clf [.U, .U, .X, .U, .U, .U, .X, .X, .U]) [0, 1, 2, 3, 4, 5, 6, 7, 8] rfl (by kernel_rfl) (by decide) ?_
                        refine TF.u (v := (.pointer (some ⟨_, 0, none⟩))) rfl rfl (pr_move rfl) ?_
                        refine TF.u (v := (.int .i64 _)) rfl rfl (pr_move rfl) ?_
                        obtain ⟨F176, hF176, hU176⟩ := H.focus (k := 1) rfl
                        refine TF.call (args := [(.pointer (some ⟨_, 0, none⟩)), (.int .i64 _)]) Try.fn15 rfl rfl (wantF_none rfl) rfl (sread_ok _ _ _ _ _ hF176 ok154 (by omega) (by omega)) ?_
                        rintro e_ w ⟨rfl, hb175⟩
                        refine ⟨_, rfl, ?_⟩
                        replace H := H.below hb175
                        refine TF.u (v := (.tuple _)) rfl rfl (pr_move rfl) ?_
                        refine TF.u (v := (.agg ⟨pgV ((sRead (sMend s (n : Int) 3).1 (k : Int)).1)⟩)) rfl rfl (pr_extract (vs := _) rfl rfl) ?_
                        refine TF.u (v := (.int .i64 _)) rfl rfl (pr_extract (vs := _) rfl rfl) ?_
                        refine TF.alloc H rfl (Cx.xx rfl) (wantF_none rfl) (Try.ty27) rfl ?_
                        clear H
                        intro bk177 w hltbk177 hb178 H
                        replace H : Sat _ _ _ (cBlk _ _ (pgV noPg) :: _) := H
                        replace H : Sat _ _ _ [_, _, _, _] := H
                        refine TF.storeN (q := 0) (cs' := pgV ((sRead (sMend s (n : Int) 3).1 (k : Int)).1)) H rfl rfl rfl (wantF_none rfl) (Try.ty27.s) rfl rfl (pgV_len (sRead_ok ok154 _).len) (pgV_one _) (by have h_ : (pgV noPg).length = 17 := (pgV_len noPg_ok.len); omega) (store_all (pgV_len noPg_ok.len)) ?_
                        clear H
                        intro w ho179 H
                        replace H : Sat _ _ _ [_, _, _, _] := H
                        refine TF.u (v := (.int .i64 _)) rfl rfl (pr_assign rfl) ?_
                        refine TF.nil (nx_then ?_)
                        refine cw_seq ?_
                        -- region 31 law.go:168
                        refine cw_region (clf [.U, .U, .U, .X, .X, .U, .U, .U]) [0, 1, 2, 3, 4, 5, 6, 7] rfl (by kernel_rfl) (by decide) ?_
                        refine TF.u (v := (.int .i64 _)) rfl rfl (pr_move rfl) ?_
                        refine TF.u (v := (.bool _)) rfl rfl (pr_eql rfl rfl) ?_
                        refine TF.u (v := (.bool _)) rfl rfl (pr_move rfl) ?_
                        refine TF.split (dj := 183) rfl ?_ (fun hq181 => by
                            have hp181 := dF hq181
                            exfalso
                            exact hp181 (congrArg Prod.snd hl3_))
                        intro hq181
                        have hp181 := dT hq181
                        refine TF.loadE (cs' := pgV ((sRead (sMend s (n : Int) 3).1 (k : Int)).1)) rfl rfl (wantF_yes rfl rfl rfl hq181) (Try.ty27.s) rfl rfl (H.blk (k := 0) rfl) (pgV_len (sRead_ok ok154 _).len) (pgV_all (sRead_ok ok154 _).len) ?_
                        refine TF.loadE (cs' := pgV noPg) rfl rfl (wantF_yes rfl rfl rfl hq181) (Try.ty27.s) rfl rfl (H.blk (k := 1) rfl) (pgV_len noPg_ok.len) (pgV_all noPg_ok.len) ?_
                        refine TF.ug (v := (.bool _)) rfl rfl (wantF_yes rfl rfl rfl hq181) (run_eqlA (xs := pgV ((sRead (sMend s (n : Int) 3).1 (k : Int)).1)) (ys := pgV noPg) (EqV.page Try.underlying27 (by kernel_rfl) rfl rfl Try.underlying24 rfl (by kernel_rfl) rfl (sRead_ok ok154 _).len noPg_ok.len) (by decide) (by kernel_rfl) rfl rfl) ?_
                        refine TF.u (v := (.bool _)) rfl rfl (pr_pickT rfl hq181 rfl) ?_
                        refine TF.u (v := (.bool _)) rfl rfl (pr_assign rfl) ?_
                        refine TF.nil (nx_then ?_)
                        refine cw_ret (fin1 (v := (.bool _)) Try.results6 rfl rfl ?_)
                        exact ⟨by rw [hl3_]; simp [cutW, *], H.base⟩
              ·
                have hp44 := dT (nF hq44)
                refine cw_skip (nx_then ?_)
                refine cw_seq ?_
                refine cw_seq ?_
                -- region 20 law.go:157
                refine cw_region (clf [.U, .U, .U]) [0, 1, 2] rfl (by kernel_rfl) (by decide) ?_
                skip
                refine TF.u (v := (.slice _ _ _)) rfl rfl (pr_move rfl) ?_
                refine TF.u (v := (.int .i64 _)) rfl rfl (pr_len rfl Try.underlying51 rfl) ?_
                refine TF.u (v := (.int .i64 _)) rfl rfl (pr_move rfl) ?_
                refine TF.nil (nx_then ?_)
                refine cw_block ?_
                refine cw_loop (fun m_q f_q w => ∃ (g_ : Nat → Value) (i : Nat) (s : SS), m_q = n_mends - i ∧ f_q = (upd (upd (upd (upd (upd (upd (upd (upd g_ 6 (.int .i64 mask)) 7 (.slice A_mends n_mends c_mends)) 12 (.pointer (some ⟨bk1, 0, none⟩))) 17 (.pointer (some ⟨tb23, 0, none⟩))) 18 (.int .i64 (n : Int))) 20 (.int .i64 (k : Int))) 150 (.int .i64 (n_mends : Int))) 151 (.int .i64 (i : Int))) ∧ Sat [] w0 w [cStore 60 65 tb23 (s), cBlk bk1 27 (pgV p)] ∧ (i ≤ n_mends) ∧ (CutI s n k (cutW mask p))) (n_mends - 0) ?_ ?_
                ·
                  exact ⟨_, 0, _, rfl, (cutS (cutS (cutS (cutS (cutS (cutS (cutS (cutS rfl rfl) rfl) rfl) rfl) rfl) rfl) rfl) rfl), ((((H.front 3 rfl).front 2 rfl).del 2).del 2), Nat.zero_le _, hC1⟩
                ·
                  clear H
                  rintro m_ f_ w ⟨g_, i, s, rfl, rfl, H, hi, hC⟩
                  refine cw_seq ?_
                  -- region 21 law.go:157
                  refine cw_region (clf [.U]) [0] rfl (by kernel_rfl) (by decide) ?_
                  refine TF.u (v := (.bool _)) rfl rfl (pr_lss rfl rfl) ?_
                  refine TF.nil (nx_then ?_)
                  refine cw_seq ?_
                  refine cw_cond _ rfl rfl (fun hq184 => ?_) (fun hq184 => ?_)
                  ·
                    have hp184 := dT hq184
                    refine cw_skip (nx_then ?_)
                    refine cw_seq ?_
                    refine cw_block ?_
                    refine cw_seq ?_
                    -- region 22 law.go:157
                    refine cw_region (clf [.U, .U]) [0, 1] rfl (by kernel_rfl) (by decide) ?_
                    refine TF.u (v := (.int .i64 _)) rfl rfl (pr_move rfl) ?_
                    refine TF.u (v := (.int .i64 _)) rfl rfl (pr_assign rfl) ?_
                    refine TF.nil (nx_then ?_)
                    -- region 23 law.go:158
                    refine cw_region (clf [.U, .U, .U, .U, .U, .X, .X]) [0, 1, 2, 3, 4, 5, 6] rfl (by kernel_rfl) (by decide) ?_
                    skip
                    refine TF.u (v := (.pointer (some ⟨_, 0, none⟩))) rfl rfl (pr_move rfl) ?_
                    refine TF.u (v := (.int .i64 _)) rfl rfl (pr_move rfl) ?_
                    refine TF.u (v := (.slice _ _ _)) rfl rfl (pr_move rfl) ?_
                    refine TF.u (v := (.int .i64 _)) rfl rfl (pr_move rfl) ?_
                    obtain ⟨o187, ho187⟩ : ∃ o, mends[i]? = some o := ⟨_, List.getElem?_eq_getElem (by omega)⟩
                    have hko187 := hok_mends o187 (List.mem_of_getElem? ho187)
                    refine TF.idx (h_mends.below H.base) rfl rfl (wantF_none rfl) Try.underlying51 (Try.ty3.s) rfl rfl (by omega) (by omega) ?_
                    intro p185 hc186
                    replace hc186 : ∀ j u, j < 1 → ((fun o : Int => [(.int .i64 o)]) o187)[j]? = some u → w.cell? (p185.add j) = some u := fun j u hj hu => hc186 j u hj ((flat_at (fun o : Int => [(.int .i64 o)]) 1 _ (fun _ => rfl) ho187 hj).trans hu)
                    refine TF.load (v := (.int .i64 o187)) rfl rfl (wantF_none rfl) Try.underlying3 rfl rfl (by have h_ := hc186 0 _ (by decide) rfl; rwa [add_zero] at h_) ?_
                    obtain ⟨F188, hF188, hU188⟩ := H.focus (k := 0) rfl
                    refine TF.call (args := [(.pointer (some ⟨_, 0, none⟩)), (.int .i64 _), (.int .i64 _)]) Try.fn16 rfl rfl (wantF_none rfl) rfl (smend_ok _ _ _ _ _ _ hF188 hC.pv.inv.ok (by omega) (by omega) (by omega) (by omega)) ?_
                    rintro e_ w ⟨rfl, hu188, ok188⟩
                    refine ⟨_, rfl, ?_⟩
                    replace H := hU188 hu188
                    replace H : Sat _ _ _ [_, _] := H
                    refine TF.nil (nx_block (nx_then ?_))
                    -- region 24 law.go:157
                    refine cw_region (clf [.U, .U]) [0, 1] rfl (by kernel_rfl) (by decide) ?_
                    refine TF.u (v := (.int .i64 _)) rfl rfl (pr_add rfl rfl (IntWalk.i64_in _ (by omega))) ?_
                    refine TF.u (v := (.int .i64 _)) rfl rfl (pr_move rfl) ?_
                    refine TF.nil (nx_loop (m' := n_mends - (i + 1)) (by omega) ?_)
                    exact ⟨_, i + 1, _, rfl, (cutS (cutS (cutS (cutS (cutS (cutS (cutS (cutS rfl rfl) rfl) rfl) rfl) rfl) rfl) rfl) rfl), ((H.front 1 rfl).front 1 rfl), by omega, hC.mend _ _⟩
                  ·
                    have hp184 := dF hq184
                    refine cw_exit (ex_then (ex_then (ex_here (nx_then ?_))))
                    refine cw_seq ?_
                    refine cw_seq ?_
                    -- region 25 law.go:160
                    refine cw_region (clf [.U, .U, .X, .U, .U, .U, .U, .X, .U]) [0, 1, 2, 3, 4, 5, 6, 7, 8] rfl (by kernel_rfl) (by decide) ?_
                    obtain ⟨hl1_, hl2_, hl3_⟩ := hC.last hn1 hi1
                    refine TF.u (v := (.pointer (some ⟨_, 0, none⟩))) rfl rfl (pr_move rfl) ?_
                    refine TF.u (v := (.int .i64 _)) rfl rfl (pr_move rfl) ?_
                    obtain ⟨F189, hF189, hU189⟩ := H.focus (k := 0) rfl
                    refine TF.call (args := [(.pointer (some ⟨_, 0, none⟩)), (.int .i64 _), (.int .i64 _)]) Try.fn16 rfl rfl (wantF_none rfl) rfl (smend_ok _ _ _ _ _ _ hF189 hC.pv.inv.ok (by omega) (by omega) (by omega) (by omega)) ?_
                    rintro e_ w ⟨rfl, hu189, ok189⟩
                    refine ⟨_, rfl, ?_⟩
                    replace H := hU189 hu189
                    replace H : Sat _ _ _ [_, _] := H
                    refine TF.u (v := (.bool _)) rfl rfl (pr_neq rfl rfl) ?_
                    refine TF.u (v := (.bool _)) rfl rfl (pr_move rfl) ?_
                    refine TF.split (dj := 166) rfl (fun hq191 => by
                        have hp191 := dF (nT hq191)
                        exfalso
                        exact hp191 hl1_) ?_
                    intro hq191
                    have hp191 := dT (nF hq191)
                    refine TF.ug (v := (.pointer (some ⟨_, 0, none⟩))) rfl rfl (wantF_yes rfl rfl rfl hq191) (pr_move rfl) ?_
                    refine TF.ug (v := (.int .i64 _)) rfl rfl (wantF_yes rfl rfl rfl hq191) (pr_move rfl) ?_
                    obtain ⟨F194, hF194, hU194⟩ := H.focus (k := 0) rfl
                    refine TF.call (args := [(.pointer (some ⟨_, 0, none⟩)), (.int .i64 _)]) Try.fn18 rfl rfl (wantF_yes rfl rfl rfl hq191) rfl (sout_ok _ _ _ _ _ hF194 ok189 (by omega) (by omega)) ?_
                    rintro e_ w ⟨rfl, hb192⟩
                    refine ⟨_, rfl, ?_⟩
                    replace H := H.below hb192
                    refine TF.u (v := (.bool _)) rfl rfl (pr_pickF rfl hq191 rfl) ?_
                    refine TF.nil (nx_then ?_)
                    refine cw_cond _ rfl rfl (fun hq195 => by
                        have hp195 := hq195
                        exfalso
                        rw [hl2_] at hp195; cases hp195) ?_
                    intro hq195
                    have hp195 := hq195
                    refine cw_skip (nx_then ?_)
                    refine cw_seq ?_
                    -- region 27 law.go:163
                    refine cw_region (clf [.U, .X, .X]) [0, 1, 2] rfl (by kernel_rfl) (by decide) ?_
                    refine TF.u (v := (.agg ⟨pgV noPg⟩)) rfl rfl (pr_build (cs := pgV noPg) Try.bld27 rfl rfl) ?_
                    refine TF.alloc H rfl (Cx.xx rfl) (wantF_none rfl) (Try.ty27) rfl ?_
                    clear H
                    intro bk196 w hltbk196 hb197 H
                    replace H : Sat _ _ _ (cBlk _ _ (pgV noPg) :: _) := H
                    replace H : Sat _ _ _ [_, _, _] := H
                    refine TF.storeN (q := 0) (cs' := pgV noPg) H rfl rfl rfl (wantF_none rfl) (Try.ty27.s) rfl rfl (pgV_len noPg_ok.len) (pgV_one _) (by have h_ : (pgV noPg).length = 17 := (pgV_len noPg_ok.len); omega) (store_all (pgV_len noPg_ok.len)) ?_
                    clear H
                    intro w ho198 H
                    replace H : Sat _ _ _ [_, _, _] := H
                    refine TF.nil (nx_then ?_)
                    refine cw_seq ?_
                    refine cw_seq ?_
                    -- region 28 law.go:164
                    refine cw_region (clf [.U, .U]) [0, 1] rfl (by kernel_rfl) (by decide) ?_
                    refine TF.u (v := (.int .i64 _)) rfl rfl (pr_move rfl) ?_
                    refine TF.u (v := (.bool _)) rfl rfl (pr_gtr rfl rfl) ?_
                    refine TF.nil (nx_then ?_)
                    refine cw_cond _ rfl rfl (fun hq200 => ?_) (fun hq200 => ?_)
                    ·
                      have hp200 := dT hq200
                      -- region 29 law.go:165
                      refine cw_region (clf [.X, .X]) [0, 1] rfl (by kernel_rfl) (by decide) ?_
                      refine TF.loadE (cs' := pgV p) rfl rfl (wantF_none rfl) (Try.ty27.s) rfl rfl (H.blk (k := 2) rfl) (pgV_len ok_p.len) (pgV_all ok_p.len) ?_
                      refine TF.storeN (q := 0) (cs' := pgV p) H rfl rfl rfl (wantF_none rfl) (Try.ty27.s) rfl rfl (pgV_len ok_p.len) (pgV_one _) (by have h_ : (pgV noPg).length = 17 := (pgV_len noPg_ok.len); omega) (store_all (pgV_len noPg_ok.len)) ?_
                      clear H
                      intro w ho201 H
                      replace H : Sat _ _ _ [_, _, _] := H
                      refine TF.nil (nx_then ?_)
                      refine cw_seq ?_
                      -- region 30 law.go:167
                      refine cw_region (clf [.U, .U, .X, .U, .U, .U, .X, .X, .U]) [0, 1, 2, 3, 4, 5, 6, 7, 8] rfl (by kernel_rfl) (by decide) ?_
                      refine TF.u (v := (.pointer (some ⟨_, 0, none⟩))) rfl rfl (pr_move rfl) ?_
                      refine TF.u (v := (.int .i64 _)) rfl rfl (pr_move rfl) ?_
                      obtain ⟨F203, hF203, hU203⟩ := H.focus (k := 1) rfl
                      refine TF.call (args := [(.pointer (some ⟨_, 0, none⟩)), (.int .i64 _)]) Try.fn15 rfl rfl (wantF_none rfl) rfl (sread_ok _ _ _ _ _ hF203 ok189 (by omega) (by omega)) ?_
                      rintro e_ w ⟨rfl, hb202⟩
                      refine ⟨_, rfl, ?_⟩
                      replace H := H.below hb202
                      refine TF.u (v := (.tuple _)) rfl rfl (pr_move rfl) ?_
                      refine TF.u (v := (.agg ⟨pgV ((sRead (sMend s (n : Int) 3).1 (k : Int)).1)⟩)) rfl rfl (pr_extract (vs := _) rfl rfl) ?_
                      refine TF.u (v := (.int .i64 _)) rfl rfl (pr_extract (vs := _) rfl rfl) ?_
                      refine TF.alloc H rfl (Cx.xx rfl) (wantF_none rfl) (Try.ty27) rfl ?_
                      clear H
                      intro bk204 w hltbk204 hb205 H
                      replace H : Sat _ _ _ (cBlk _ _ (pgV noPg) :: _) := H
                      replace H : Sat _ _ _ [_, _, _, _] := H
                      refine TF.storeN (q := 0) (cs' := pgV ((sRead (sMend s (n : Int) 3).1 (k : Int)).1)) H rfl rfl rfl (wantF_none rfl) (Try.ty27.s) rfl rfl (pgV_len (sRead_ok ok189 _).len) (pgV_one _) (by have h_ : (pgV noPg).length = 17 := (pgV_len noPg_ok.len); omega) (store_all (pgV_len noPg_ok.len)) ?_
                      clear H
                      intro w ho206 H
                      replace H : Sat _ _ _ [_, _, _, _] := H
                      refine TF.u (v := (.int .i64 _)) rfl rfl (pr_assign rfl) ?_
                      refine TF.nil (nx_then ?_)
                      refine cw_seq ?_
                      -- region 31 law.go:168
                      refine cw_region (clf [.U, .U, .U, .X, .X, .U, .U, .U]) [0, 1, 2, 3, 4, 5, 6, 7] rfl (by kernel_rfl) (by decide) ?_
                      refine TF.u (v := (.int .i64 _)) rfl rfl (pr_move rfl) ?_
                      refine TF.u (v := (.bool _)) rfl rfl (pr_eql rfl rfl) ?_
                      refine TF.u (v := (.bool _)) rfl rfl (pr_move rfl) ?_
                      refine TF.split (dj := 183) rfl ?_ (fun hq208 => by
                          have hp208 := dF hq208
                          exfalso
                          exact hp208 (congrArg Prod.snd hl3_))
                      intro hq208
                      have hp208 := dT hq208
                      refine TF.loadE (cs' := pgV ((sRead (sMend s (n : Int) 3).1 (k : Int)).1)) rfl rfl (wantF_yes rfl rfl rfl hq208) (Try.ty27.s) rfl rfl (H.blk (k := 0) rfl) (pgV_len (sRead_ok ok189 _).len) (pgV_all (sRead_ok ok189 _).len) ?_
                      refine TF.loadE (cs' := pgV p) rfl rfl (wantF_yes rfl rfl rfl hq208) (Try.ty27.s) rfl rfl (H.blk (k := 1) rfl) (pgV_len ok_p.len) (pgV_all ok_p.len) ?_
                      refine TF.ug (v := (.bool _)) rfl rfl (wantF_yes rfl rfl rfl hq208) (run_eqlA (xs := pgV ((sRead (sMend s (n : Int) 3).1 (k : Int)).1)) (ys := pgV p) (EqV.page Try.underlying27 (by kernel_rfl) rfl rfl Try.underlying24 rfl (by kernel_rfl) rfl (sRead_ok ok189 _).len ok_p.len) (by decide) (by kernel_rfl) rfl rfl) ?_
                      refine TF.u (v := (.bool _)) rfl rfl (pr_pickT rfl hq208 rfl) ?_
                      refine TF.u (v := (.bool _)) rfl rfl (pr_assign rfl) ?_
                      refine TF.nil (nx_then ?_)
                      refine cw_ret (fin1 (v := (.bool _)) Try.results6 rfl rfl ?_)
                      exact ⟨by rw [hl3_]; simp [cutW, *], H.base⟩
                    ·
                      have hp200 := dF hq200
                      refine cw_skip (nx_then ?_)
                      refine cw_seq ?_
                      -- region 30 law.go:167
                      refine cw_region (clf [.U, .U, .X, .U, .U, .U, .X, .X, .U]) [0, 1, 2, 3, 4, 5, 6, 7, 8] rfl (by kernel_rfl) (by decide) ?_
                      refine TF.u (v := (.pointer (some ⟨_, 0, none⟩))) rfl rfl (pr_move rfl) ?_
                      refine TF.u (v := (.int .i64 _)) rfl rfl (pr_move rfl) ?_
                      obtain ⟨F211, hF211, hU211⟩ := H.focus (k := 1) rfl
                      refine TF.call (args := [(.pointer (some ⟨_, 0, none⟩)), (.int .i64 _)]) Try.fn15 rfl rfl (wantF_none rfl) rfl (sread_ok _ _ _ _ _ hF211 ok189 (by omega) (by omega)) ?_
                      rintro e_ w ⟨rfl, hb210⟩
                      refine ⟨_, rfl, ?_⟩
                      replace H := H.below hb210
                      refine TF.u (v := (.tuple _)) rfl rfl (pr_move rfl) ?_
                      refine TF.u (v := (.agg ⟨pgV ((sRead (sMend s (n : Int) 3).1 (k : Int)).1)⟩)) rfl rfl (pr_extract (vs := _) rfl rfl) ?_
                      refine TF.u (v := (.int .i64 _)) rfl rfl (pr_extract (vs := _) rfl rfl) ?_
                      refine TF.alloc H rfl (Cx.xx rfl) (wantF_none rfl) (Try.ty27) rfl ?_
                      clear H
                      intro bk212 w hltbk212 hb213 H
                      replace H : Sat _ _ _ (cBlk _ _ (pgV noPg) :: _) := H
                      replace H : Sat _ _ _ [_, _, _, _] := H
                      refine TF.storeN (q := 0) (cs' := pgV ((sRead (sMend s (n : Int) 3).1 (k : Int)).1)) H rfl rfl rfl (wantF_none rfl) (Try.ty27.s) rfl rfl (pgV_len (sRead_ok ok189 _).len) (pgV_one _) (by have h_ : (pgV noPg).length = 17 := (pgV_len noPg_ok.len); omega) (store_all (pgV_len noPg_ok.len)) ?_
                      clear H
                      intro w ho214 H
                      replace H : Sat _ _ _ [_, _, _, _] := H
                      refine TF.u (v := (.int .i64 _)) rfl rfl (pr_assign rfl) ?_
                      refine TF.nil (nx_then ?_)
                      refine cw_seq ?_
                      -- region 31 law.go:168
                      refine cw_region (clf [.U, .U, .U, .X, .X, .U, .U, .U]) [0, 1, 2, 3, 4, 5, 6, 7] rfl (by kernel_rfl) (by decide) ?_
                      refine TF.u (v := (.int .i64 _)) rfl rfl (pr_move rfl) ?_
                      refine TF.u (v := (.bool _)) rfl rfl (pr_eql rfl rfl) ?_
                      refine TF.u (v := (.bool _)) rfl rfl (pr_move rfl) ?_
                      refine TF.split (dj := 183) rfl ?_ (fun hq216 => by
                          have hp216 := dF hq216
                          exfalso
                          exact hp216 (congrArg Prod.snd hl3_))
                      intro hq216
                      have hp216 := dT hq216
                      refine TF.loadE (cs' := pgV ((sRead (sMend s (n : Int) 3).1 (k : Int)).1)) rfl rfl (wantF_yes rfl rfl rfl hq216) (Try.ty27.s) rfl rfl (H.blk (k := 0) rfl) (pgV_len (sRead_ok ok189 _).len) (pgV_all (sRead_ok ok189 _).len) ?_
                      refine TF.loadE (cs' := pgV noPg) rfl rfl (wantF_yes rfl rfl rfl hq216) (Try.ty27.s) rfl rfl (H.blk (k := 1) rfl) (pgV_len noPg_ok.len) (pgV_all noPg_ok.len) ?_
                      refine TF.ug (v := (.bool _)) rfl rfl (wantF_yes rfl rfl rfl hq216) (run_eqlA (xs := pgV ((sRead (sMend s (n : Int) 3).1 (k : Int)).1)) (ys := pgV noPg) (EqV.page Try.underlying27 (by kernel_rfl) rfl rfl Try.underlying24 rfl (by kernel_rfl) rfl (sRead_ok ok189 _).len noPg_ok.len) (by decide) (by kernel_rfl) rfl rfl) ?_
                      refine TF.u (v := (.bool _)) rfl rfl (pr_pickT rfl hq216 rfl) ?_
                      refine TF.u (v := (.bool _)) rfl rfl (pr_assign rfl) ?_
                      refine TF.nil (nx_then ?_)
                      refine cw_ret (fin1 (v := (.bool _)) Try.results6 rfl rfl ?_)
                      exact ⟨by rw [hl3_]; simp [cutW, *], H.base⟩
            ·
              have hp42 := dT (nF hq42)
              refine TF.skip rfl (wantF_no rfl rfl rfl hq42) ?_
              refine TF.skip rfl (wantF_no rfl rfl rfl hq42) ?_
              refine TF.skip rfl (wantF_no rfl rfl rfl hq42) ?_
              refine TF.u (v := (.bool _)) rfl rfl (pr_pickF rfl hq42 rfl) ?_
              refine TF.nil (nx_then ?_)
              refine cw_condF (t := _) rfl rfl rfl ?_
              refine cw_skip (nx_then ?_)
              refine cw_seq ?_
              refine cw_seq ?_
              -- region 20 law.go:157
              refine cw_region (clf [.U, .U, .U]) [0, 1, 2] rfl (by kernel_rfl) (by decide) ?_
              skip
              refine TF.u (v := (.slice _ _ _)) rfl rfl (pr_move rfl) ?_
              refine TF.u (v := (.int .i64 _)) rfl rfl (pr_len rfl Try.underlying51 rfl) ?_
              refine TF.u (v := (.int .i64 _)) rfl rfl (pr_move rfl) ?_
              refine TF.nil (nx_then ?_)
              refine cw_block ?_
              refine cw_loop (fun m_q f_q w => ∃ (g_ : Nat → Value) (i : Nat) (s : SS), m_q = n_mends - i ∧ f_q = (upd (upd (upd (upd (upd (upd (upd (upd g_ 6 (.int .i64 mask)) 7 (.slice A_mends n_mends c_mends)) 12 (.pointer (some ⟨bk1, 0, none⟩))) 17 (.pointer (some ⟨tb23, 0, none⟩))) 18 (.int .i64 (n : Int))) 20 (.int .i64 (k : Int))) 150 (.int .i64 (n_mends : Int))) 151 (.int .i64 (i : Int))) ∧ Sat [] w0 w [cStore 60 65 tb23 (s), cBlk bk1 27 (pgV p)] ∧ (i ≤ n_mends) ∧ (CutI s n k (cutW mask p))) (n_mends - 0) ?_ ?_
              ·
                exact ⟨_, 0, _, rfl, (cutS (cutS (cutS (cutS (cutS (cutS (cutS (cutS rfl rfl) rfl) rfl) rfl) rfl) rfl) rfl) rfl), ((((H.front 3 rfl).front 2 rfl).del 2).del 2), Nat.zero_le _, hC1⟩
              ·
                clear H
                rintro m_ f_ w ⟨g_, i, s, rfl, rfl, H, hi, hC⟩
                refine cw_seq ?_
                -- region 21 law.go:157
                refine cw_region (clf [.U]) [0] rfl (by kernel_rfl) (by decide) ?_
                refine TF.u (v := (.bool _)) rfl rfl (pr_lss rfl rfl) ?_
                refine TF.nil (nx_then ?_)
                refine cw_seq ?_
                refine cw_cond _ rfl rfl (fun hq219 => ?_) (fun hq219 => ?_)
                ·
                  have hp219 := dT hq219
                  refine cw_skip (nx_then ?_)
                  refine cw_seq ?_
                  refine cw_block ?_
                  refine cw_seq ?_
                  -- region 22 law.go:157
                  refine cw_region (clf [.U, .U]) [0, 1] rfl (by kernel_rfl) (by decide) ?_
                  refine TF.u (v := (.int .i64 _)) rfl rfl (pr_move rfl) ?_
                  refine TF.u (v := (.int .i64 _)) rfl rfl (pr_assign rfl) ?_
                  refine TF.nil (nx_then ?_)
                  -- region 23 law.go:158
                  refine cw_region (clf [.U, .U, .U, .U, .U, .X, .X]) [0, 1, 2, 3, 4, 5, 6] rfl (by kernel_rfl) (by decide) ?_
                  skip
                  refine TF.u (v := (.pointer (some ⟨_, 0, none⟩))) rfl rfl (pr_move rfl) ?_
                  refine TF.u (v := (.int .i64 _)) rfl rfl (pr_move rfl) ?_
                  refine TF.u (v := (.slice _ _ _)) rfl rfl (pr_move rfl) ?_
                  refine TF.u (v := (.int .i64 _)) rfl rfl (pr_move rfl) ?_
                  obtain ⟨o222, ho222⟩ : ∃ o, mends[i]? = some o := ⟨_, List.getElem?_eq_getElem (by omega)⟩
                  have hko222 := hok_mends o222 (List.mem_of_getElem? ho222)
                  refine TF.idx (h_mends.below H.base) rfl rfl (wantF_none rfl) Try.underlying51 (Try.ty3.s) rfl rfl (by omega) (by omega) ?_
                  intro p220 hc221
                  replace hc221 : ∀ j u, j < 1 → ((fun o : Int => [(.int .i64 o)]) o222)[j]? = some u → w.cell? (p220.add j) = some u := fun j u hj hu => hc221 j u hj ((flat_at (fun o : Int => [(.int .i64 o)]) 1 _ (fun _ => rfl) ho222 hj).trans hu)
                  refine TF.load (v := (.int .i64 o222)) rfl rfl (wantF_none rfl) Try.underlying3 rfl rfl (by have h_ := hc221 0 _ (by decide) rfl; rwa [add_zero] at h_) ?_
                  obtain ⟨F223, hF223, hU223⟩ := H.focus (k := 0) rfl
                  refine TF.call (args := [(.pointer (some ⟨_, 0, none⟩)), (.int .i64 _), (.int .i64 _)]) Try.fn16 rfl rfl (wantF_none rfl) rfl (smend_ok _ _ _ _ _ _ hF223 hC.pv.inv.ok (by omega) (by omega) (by omega) (by omega)) ?_
                  rintro e_ w ⟨rfl, hu223, ok223⟩
                  refine ⟨_, rfl, ?_⟩
                  replace H := hU223 hu223
                  replace H : Sat _ _ _ [_, _] := H
                  refine TF.nil (nx_block (nx_then ?_))
                  -- region 24 law.go:157
                  refine cw_region (clf [.U, .U]) [0, 1] rfl (by kernel_rfl) (by decide) ?_
                  refine TF.u (v := (.int .i64 _)) rfl rfl (pr_add rfl rfl (IntWalk.i64_in _ (by omega))) ?_
                  refine TF.u (v := (.int .i64 _)) rfl rfl (pr_move rfl) ?_
                  refine TF.nil (nx_loop (m' := n_mends - (i + 1)) (by omega) ?_)
                  exact ⟨_, i + 1, _, rfl, (cutS (cutS (cutS (cutS (cutS (cutS (cutS (cutS rfl rfl) rfl) rfl) rfl) rfl) rfl) rfl) rfl), ((H.front 1 rfl).front 1 rfl), by omega, hC.mend _ _⟩
                ·
                  have hp219 := dF hq219
                  refine cw_exit (ex_then (ex_then (ex_here (nx_then ?_))))
                  refine cw_seq ?_
                  refine cw_seq ?_
                  -- region 25 law.go:160
                  refine cw_region (clf [.U, .U, .X, .U, .U, .U, .U, .X, .U]) [0, 1, 2, 3, 4, 5, 6, 7, 8] rfl (by kernel_rfl) (by decide) ?_
                  obtain ⟨hl1_, hl2_, hl3_⟩ := hC.last hn1 hi1
                  refine TF.u (v := (.pointer (some ⟨_, 0, none⟩))) rfl rfl (pr_move rfl) ?_
                  refine TF.u (v := (.int .i64 _)) rfl rfl (pr_move rfl) ?_
                  obtain ⟨F224, hF224, hU224⟩ := H.focus (k := 0) rfl
                  refine TF.call (args := [(.pointer (some ⟨_, 0, none⟩)), (.int .i64 _), (.int .i64 _)]) Try.fn16 rfl rfl (wantF_none rfl) rfl (smend_ok _ _ _ _ _ _ hF224 hC.pv.inv.ok (by omega) (by omega) (by omega) (by omega)) ?_
                  rintro e_ w ⟨rfl, hu224, ok224⟩
                  refine ⟨_, rfl, ?_⟩
                  replace H := hU224 hu224
                  replace H : Sat _ _ _ [_, _] := H
                  refine TF.u (v := (.bool _)) rfl rfl (pr_neq rfl rfl) ?_
                  refine TF.u (v := (.bool _)) rfl rfl (pr_move rfl) ?_
                  refine TF.split (dj := 166) rfl (fun hq226 => by
                      have hp226 := dF (nT hq226)
                      exfalso
                      exact hp226 hl1_) ?_
                  intro hq226
                  have hp226 := dT (nF hq226)
                  refine TF.ug (v := (.pointer (some ⟨_, 0, none⟩))) rfl rfl (wantF_yes rfl rfl rfl hq226) (pr_move rfl) ?_
                  refine TF.ug (v := (.int .i64 _)) rfl rfl (wantF_yes rfl rfl rfl hq226) (pr_move rfl) ?_
                  obtain ⟨F229, hF229, hU229⟩ := H.focus (k := 0) rfl
                  refine TF.call (args := [(.pointer (some ⟨_, 0, none⟩)), (.int .i64 _)]) Try.fn18 rfl rfl (wantF_yes rfl rfl rfl hq226) rfl (sout_ok _ _ _ _ _ hF229 ok224 (by omega) (by omega)) ?_
                  rintro e_ w ⟨rfl, hb227⟩
                  refine ⟨_, rfl, ?_⟩
                  replace H := H.below hb227
                  refine TF.u (v := (.bool _)) rfl rfl (pr_pickF rfl hq226 rfl) ?_
                  refine TF.nil (nx_then ?_)
                  refine cw_cond _ rfl rfl (fun hq230 => by
                      have hp230 := hq230
                      exfalso
                      rw [hl2_] at hp230; cases hp230) ?_
                  intro hq230
                  have hp230 := hq230
                  refine cw_skip (nx_then ?_)
                  refine cw_seq ?_
                  -- region 27 law.go:163
                  refine cw_region (clf [.U, .X, .X]) [0, 1, 2] rfl (by kernel_rfl) (by decide) ?_
                  refine TF.u (v := (.agg ⟨pgV noPg⟩)) rfl rfl (pr_build (cs := pgV noPg) Try.bld27 rfl rfl) ?_
                  refine TF.alloc H rfl (Cx.xx rfl) (wantF_none rfl) (Try.ty27) rfl ?_
                  clear H
                  intro bk231 w hltbk231 hb232 H
                  replace H : Sat _ _ _ (cBlk _ _ (pgV noPg) :: _) := H
                  replace H : Sat _ _ _ [_, _, _] := H
                  refine TF.storeN (q := 0) (cs' := pgV noPg) H rfl rfl rfl (wantF_none rfl) (Try.ty27.s) rfl rfl (pgV_len noPg_ok.len) (pgV_one _) (by have h_ : (pgV noPg).length = 17 := (pgV_len noPg_ok.len); omega) (store_all (pgV_len noPg_ok.len)) ?_
                  clear H
                  intro w ho233 H
                  replace H : Sat _ _ _ [_, _, _] := H
                  refine TF.nil (nx_then ?_)
                  refine cw_seq ?_
                  refine cw_seq ?_
                  -- region 28 law.go:164
                  refine cw_region (clf [.U, .U]) [0, 1] rfl (by kernel_rfl) (by decide) ?_
                  refine TF.u (v := (.int .i64 _)) rfl rfl (pr_move rfl) ?_
                  refine TF.u (v := (.bool _)) rfl rfl (pr_gtr rfl rfl) ?_
                  refine TF.nil (nx_then ?_)
                  refine cw_cond _ rfl rfl (fun hq235 => ?_) (fun hq235 => ?_)
                  ·
                    have hp235 := dT hq235
                    -- region 29 law.go:165
                    refine cw_region (clf [.X, .X]) [0, 1] rfl (by kernel_rfl) (by decide) ?_
                    refine TF.loadE (cs' := pgV p) rfl rfl (wantF_none rfl) (Try.ty27.s) rfl rfl (H.blk (k := 2) rfl) (pgV_len ok_p.len) (pgV_all ok_p.len) ?_
                    refine TF.storeN (q := 0) (cs' := pgV p) H rfl rfl rfl (wantF_none rfl) (Try.ty27.s) rfl rfl (pgV_len ok_p.len) (pgV_one _) (by have h_ : (pgV noPg).length = 17 := (pgV_len noPg_ok.len); omega) (store_all (pgV_len noPg_ok.len)) ?_
                    clear H
                    intro w ho236 H
                    replace H : Sat _ _ _ [_, _, _] := H
                    refine TF.nil (nx_then ?_)
                    refine cw_seq ?_
                    -- region 30 law.go:167
                    refine cw_region (clf [.U, .U, .X, .U, .U, .U, .X, .X, .U]) [0, 1, 2, 3, 4, 5, 6, 7, 8] rfl (by kernel_rfl) (by decide) ?_
                    refine TF.u (v := (.pointer (some ⟨_, 0, none⟩))) rfl rfl (pr_move rfl) ?_
                    refine TF.u (v := (.int .i64 _)) rfl rfl (pr_move rfl) ?_
                    obtain ⟨F238, hF238, hU238⟩ := H.focus (k := 1) rfl
                    refine TF.call (args := [(.pointer (some ⟨_, 0, none⟩)), (.int .i64 _)]) Try.fn15 rfl rfl (wantF_none rfl) rfl (sread_ok _ _ _ _ _ hF238 ok224 (by omega) (by omega)) ?_
                    rintro e_ w ⟨rfl, hb237⟩
                    refine ⟨_, rfl, ?_⟩
                    replace H := H.below hb237
                    refine TF.u (v := (.tuple _)) rfl rfl (pr_move rfl) ?_
                    refine TF.u (v := (.agg ⟨pgV ((sRead (sMend s (n : Int) 3).1 (k : Int)).1)⟩)) rfl rfl (pr_extract (vs := _) rfl rfl) ?_
                    refine TF.u (v := (.int .i64 _)) rfl rfl (pr_extract (vs := _) rfl rfl) ?_
                    refine TF.alloc H rfl (Cx.xx rfl) (wantF_none rfl) (Try.ty27) rfl ?_
                    clear H
                    intro bk239 w hltbk239 hb240 H
                    replace H : Sat _ _ _ (cBlk _ _ (pgV noPg) :: _) := H
                    replace H : Sat _ _ _ [_, _, _, _] := H
                    refine TF.storeN (q := 0) (cs' := pgV ((sRead (sMend s (n : Int) 3).1 (k : Int)).1)) H rfl rfl rfl (wantF_none rfl) (Try.ty27.s) rfl rfl (pgV_len (sRead_ok ok224 _).len) (pgV_one _) (by have h_ : (pgV noPg).length = 17 := (pgV_len noPg_ok.len); omega) (store_all (pgV_len noPg_ok.len)) ?_
                    clear H
                    intro w ho241 H
                    replace H : Sat _ _ _ [_, _, _, _] := H
                    refine TF.u (v := (.int .i64 _)) rfl rfl (pr_assign rfl) ?_
                    refine TF.nil (nx_then ?_)
                    refine cw_seq ?_
                    -- region 31 law.go:168
                    refine cw_region (clf [.U, .U, .U, .X, .X, .U, .U, .U]) [0, 1, 2, 3, 4, 5, 6, 7] rfl (by kernel_rfl) (by decide) ?_
                    refine TF.u (v := (.int .i64 _)) rfl rfl (pr_move rfl) ?_
                    refine TF.u (v := (.bool _)) rfl rfl (pr_eql rfl rfl) ?_
                    refine TF.u (v := (.bool _)) rfl rfl (pr_move rfl) ?_
                    refine TF.split (dj := 183) rfl ?_ (fun hq243 => by
                        have hp243 := dF hq243
                        exfalso
                        exact hp243 (congrArg Prod.snd hl3_))
                    intro hq243
                    have hp243 := dT hq243
                    refine TF.loadE (cs' := pgV ((sRead (sMend s (n : Int) 3).1 (k : Int)).1)) rfl rfl (wantF_yes rfl rfl rfl hq243) (Try.ty27.s) rfl rfl (H.blk (k := 0) rfl) (pgV_len (sRead_ok ok224 _).len) (pgV_all (sRead_ok ok224 _).len) ?_
                    refine TF.loadE (cs' := pgV p) rfl rfl (wantF_yes rfl rfl rfl hq243) (Try.ty27.s) rfl rfl (H.blk (k := 1) rfl) (pgV_len ok_p.len) (pgV_all ok_p.len) ?_
                    refine TF.ug (v := (.bool _)) rfl rfl (wantF_yes rfl rfl rfl hq243) (run_eqlA (xs := pgV ((sRead (sMend s (n : Int) 3).1 (k : Int)).1)) (ys := pgV p) (EqV.page Try.underlying27 (by kernel_rfl) rfl rfl Try.underlying24 rfl (by kernel_rfl) rfl (sRead_ok ok224 _).len ok_p.len) (by decide) (by kernel_rfl) rfl rfl) ?_
                    refine TF.u (v := (.bool _)) rfl rfl (pr_pickT rfl hq243 rfl) ?_
                    refine TF.u (v := (.bool _)) rfl rfl (pr_assign rfl) ?_
                    refine TF.nil (nx_then ?_)
                    refine cw_ret (fin1 (v := (.bool _)) Try.results6 rfl rfl ?_)
                    exact ⟨by rw [hl3_]; simp [cutW, *], H.base⟩
                  ·
                    have hp235 := dF hq235
                    refine cw_skip (nx_then ?_)
                    refine cw_seq ?_
                    -- region 30 law.go:167
                    refine cw_region (clf [.U, .U, .X, .U, .U, .U, .X, .X, .U]) [0, 1, 2, 3, 4, 5, 6, 7, 8] rfl (by kernel_rfl) (by decide) ?_
                    refine TF.u (v := (.pointer (some ⟨_, 0, none⟩))) rfl rfl (pr_move rfl) ?_
                    refine TF.u (v := (.int .i64 _)) rfl rfl (pr_move rfl) ?_
                    obtain ⟨F246, hF246, hU246⟩ := H.focus (k := 1) rfl
                    refine TF.call (args := [(.pointer (some ⟨_, 0, none⟩)), (.int .i64 _)]) Try.fn15 rfl rfl (wantF_none rfl) rfl (sread_ok _ _ _ _ _ hF246 ok224 (by omega) (by omega)) ?_
                    rintro e_ w ⟨rfl, hb245⟩
                    refine ⟨_, rfl, ?_⟩
                    replace H := H.below hb245
                    refine TF.u (v := (.tuple _)) rfl rfl (pr_move rfl) ?_
                    refine TF.u (v := (.agg ⟨pgV ((sRead (sMend s (n : Int) 3).1 (k : Int)).1)⟩)) rfl rfl (pr_extract (vs := _) rfl rfl) ?_
                    refine TF.u (v := (.int .i64 _)) rfl rfl (pr_extract (vs := _) rfl rfl) ?_
                    refine TF.alloc H rfl (Cx.xx rfl) (wantF_none rfl) (Try.ty27) rfl ?_
                    clear H
                    intro bk247 w hltbk247 hb248 H
                    replace H : Sat _ _ _ (cBlk _ _ (pgV noPg) :: _) := H
                    replace H : Sat _ _ _ [_, _, _, _] := H
                    refine TF.storeN (q := 0) (cs' := pgV ((sRead (sMend s (n : Int) 3).1 (k : Int)).1)) H rfl rfl rfl (wantF_none rfl) (Try.ty27.s) rfl rfl (pgV_len (sRead_ok ok224 _).len) (pgV_one _) (by have h_ : (pgV noPg).length = 17 := (pgV_len noPg_ok.len); omega) (store_all (pgV_len noPg_ok.len)) ?_
                    clear H
                    intro w ho249 H
                    replace H : Sat _ _ _ [_, _, _, _] := H
                    refine TF.u (v := (.int .i64 _)) rfl rfl (pr_assign rfl) ?_
                    refine TF.nil (nx_then ?_)
                    refine cw_seq ?_
                    -- region 31 law.go:168
                    refine cw_region (clf [.U, .U, .U, .X, .X, .U, .U, .U]) [0, 1, 2, 3, 4, 5, 6, 7] rfl (by kernel_rfl) (by decide) ?_
                    refine TF.u (v := (.int .i64 _)) rfl rfl (pr_move rfl) ?_
                    refine TF.u (v := (.bool _)) rfl rfl (pr_eql rfl rfl) ?_
                    refine TF.u (v := (.bool _)) rfl rfl (pr_move rfl) ?_
                    refine TF.split (dj := 183) rfl ?_ (fun hq251 => by
                        have hp251 := dF hq251
                        exfalso
                        exact hp251 (congrArg Prod.snd hl3_))
                    intro hq251
                    have hp251 := dT hq251
                    refine TF.loadE (cs' := pgV ((sRead (sMend s (n : Int) 3).1 (k : Int)).1)) rfl rfl (wantF_yes rfl rfl rfl hq251) (Try.ty27.s) rfl rfl (H.blk (k := 0) rfl) (pgV_len (sRead_ok ok224 _).len) (pgV_all (sRead_ok ok224 _).len) ?_
                    refine TF.loadE (cs' := pgV noPg) rfl rfl (wantF_yes rfl rfl rfl hq251) (Try.ty27.s) rfl rfl (H.blk (k := 1) rfl) (pgV_len noPg_ok.len) (pgV_all noPg_ok.len) ?_
                    refine TF.ug (v := (.bool _)) rfl rfl (wantF_yes rfl rfl rfl hq251) (run_eqlA (xs := pgV ((sRead (sMend s (n : Int) 3).1 (k : Int)).1)) (ys := pgV noPg) (EqV.page Try.underlying27 (by kernel_rfl) rfl rfl Try.underlying24 rfl (by kernel_rfl) rfl (sRead_ok ok224 _).len noPg_ok.len) (by decide) (by kernel_rfl) rfl rfl) ?_
                    refine TF.u (v := (.bool _)) rfl rfl (pr_pickT rfl hq251 rfl) ?_
                    refine TF.u (v := (.bool _)) rfl rfl (pr_assign rfl) ?_
                    refine TF.nil (nx_then ?_)
                    refine cw_ret (fin1 (v := (.bool _)) Try.results6 rfl rfl ?_)
                    exact ⟨by rw [hl3_]; simp [cutW, *], H.base⟩
end Go.Proofs.Ytpncaeadbfdflaa
namespace Go.Proofs.Ytpncaeadbfdflaa
open Go.ChangeShapes Go.WideShapes Go.ChangeAt Go.RowKit
open Go.ChangeMaps (open_string shut_string)
theorem storeCut_own : ownKnob Try.prog.godebug = none := by kernel_rfl
theorem storeCut_laid : laidOutB Try.prog = true := by kernel_rfl
set_option maxRecDepth 100000 in
theorem storeCut_lifted (os : Os) (started : os.Started) (H : Type) (enc : TypeId × Value → H) :
    ReturnsInHanded {} Try.checked os 6 .any (Rows.storeCutSpec.pre6 enc Try.prog Try.f6 Rows.storeCutRow.domain false) (Rows.storeCutSpec.post enc Try.prog Try.f6 false true false false) := by
  refine returnsInHanded_of_change_sized (C := Try.checked) storeCut_own started (by kernel_rfl) Try.func6
    (ChangeSpec.witness6 (enc := enc) (C := Try.checked) false ⟨#[], #[.int .u8 0, .int .u8 0, .int .u8 0, .int .u8 0, .agg #[(.int .u64 0), (.bool false), (.string ⟨⟨[]⟩⟩), (.bool false), (.string ⟨⟨[]⟩⟩), (.bool false), (.string ⟨⟨[]⟩⟩), (.bool false), (.string ⟨⟨[]⟩⟩), (.bool false), (.string ⟨⟨[]⟩⟩), (.bool false), (.string ⟨⟨[]⟩⟩), (.bool false), (.string ⟨⟨[]⟩⟩), (.bool false), (.string ⟨⟨[]⟩⟩)], .agg #[(.int .u64 0), (.bool false), (.string ⟨⟨[]⟩⟩), (.bool false), (.string ⟨⟨[]⟩⟩), (.bool false), (.string ⟨⟨[]⟩⟩), (.bool false), (.string ⟨⟨[]⟩⟩), (.bool false), (.string ⟨⟨[]⟩⟩), (.bool false), (.string ⟨⟨[]⟩⟩), (.bool false), (.string ⟨⟨[]⟩⟩), (.bool false), (.string ⟨⟨[]⟩⟩)], .int .i64 0, .slice none 0 0], []⟩ 8 (by kernel_rfl) (by kernel_rfl) (by kernel_rfl) (by kernel_rfl)) ?_
  intro W base args ds gs before hval0 hW hcnd hsz0 _
  have hval : ∀ (j : Nat) t v, Try.f6.params[j]? = some t → args[j]? = some v → Value.okWide Try.prog W .any base t v := hval0
  have hW' := hW
  obtain ⟨p, q, hA0, hV, rfl, hfz, hnd⟩ := hW
  have hA : DataW.TrodAll enc Try.prog W 0 (fun _ => true) true Try.f6.params.toList args.toList ds p := hA0
  have hsz : (DataW.weightsEach Try.prog (Try.f6.params.toList ++ Rows.storeCutSpec.plain.varTypes Try.prog) (ds ++ gs)).all (· ≤ reachBytes) = true := hsz0
  rw [Try.params6] at hA hval hsz
  obtain ⟨v0, vs0, d0, ds0, p0, q0, hargs, rfl, rfl, h0, r0⟩ := trodAll_cons hA
  obtain ⟨v1, vs1, d1, ds1, p1, q1, rfl, rfl, rfl, h1, r1⟩ := trodAll_cons r0
  obtain ⟨v2, vs2, d2, ds2, p2, q2, rfl, rfl, rfl, h2, r2⟩ := trodAll_cons r1
  obtain ⟨v3, vs3, d3, ds3, p3, q3, rfl, rfl, rfl, h3, r3⟩ := trodAll_cons r2
  obtain ⟨v4, vs4, d4, ds4, p4, q4, rfl, rfl, rfl, h4, r4⟩ := trodAll_cons r3
  obtain ⟨v5, vs5, d5, ds5, p5, q5, rfl, rfl, rfl, h5, r5⟩ := trodAll_cons r4
  obtain ⟨v6, vs6, d6, ds6, p6, q6, rfl, rfl, rfl, h6, r6⟩ := trodAll_cons r5
  obtain ⟨v7, vs7, d7, ds7, p7, q7, rfl, rfl, rfl, h7, r7⟩ := trodAll_cons r6
  obtain ⟨rfl, rfl, rfl⟩ := trodAll_nil r7
  obtain rfl : args = #[v0, v1, v2, v3, v4, v5, v6, v7] := by cases args; simp_all
  obtain ⟨rfl, rfl⟩ := trodVars_none hV
  obtain ⟨a0, rfl, rfl, rfl, m0⟩ := open_int Try.underlying5 (hval 0 5 v0 rfl rfl) h0
  have z0 := bounds_u8 m0
  obtain ⟨b0, rfl⟩ := Int.eq_ofNat_of_zero_le z0.1
  obtain ⟨a1, rfl, rfl, rfl, m1⟩ := open_int Try.underlying5 (hval 1 5 v1 rfl rfl) h1
  have z1 := bounds_u8 m1
  obtain ⟨b1, rfl⟩ := Int.eq_ofNat_of_zero_le z1.1
  obtain ⟨a2, rfl, rfl, rfl, m2⟩ := open_int Try.underlying5 (hval 2 5 v2 rfl rfl) h2
  have z2 := bounds_u8 m2
  obtain ⟨b2, rfl⟩ := Int.eq_ofNat_of_zero_le z2.1
  obtain ⟨a3, rfl, rfl, rfl, m3⟩ := open_int Try.underlying5 (hval 3 5 v3 rfl rfl) h3
  have z3 := bounds_u8 m3
  obtain ⟨b3, rfl⟩ := Int.eq_ofNat_of_zero_le z3.1
  have k4 := h4
  have lt4 : ∀ x ∈ p4, x.block < W.heap.size := by obtain ⟨m, hm⟩ := k4; exact DataW.trod_lt m _ _ _ hm
  obtain ⟨fu4, hf4⟩ := h4
  obtain ⟨⟨l4⟩, rfl, hc4⟩ := okWide_struct Try.underlying27 (hval 4 27 v4 rfl rfl)
  obtain ⟨a4, hl4, ok4⟩ := Go.Q.OT.page (P := Try.prog) (t := 27) (cs := l4) ⟨fu4, _, hf4⟩ Try.underlying27 rfl Try.underlying22 Try.underlying25 Try.underlying24 rfl Try.underlying4 Try.underlying9 (by kernel_rfl)
  subst hl4
  have k5 := h5
  have lt5 : ∀ x ∈ p5, x.block < W.heap.size := by obtain ⟨m, hm⟩ := k5; exact DataW.trod_lt m _ _ _ hm
  obtain ⟨fu5, hf5⟩ := h5
  obtain ⟨⟨l5⟩, rfl, hc5⟩ := okWide_struct Try.underlying27 (hval 5 27 v5 rfl rfl)
  obtain ⟨a5, hl5, ok5⟩ := Go.Q.OT.page (P := Try.prog) (t := 27) (cs := l5) ⟨fu5, _, hf5⟩ Try.underlying27 rfl Try.underlying22 Try.underlying25 Try.underlying24 rfl Try.underlying4 Try.underlying9 (by kernel_rfl)
  subst hl5
  obtain ⟨a6, rfl, rfl, rfl, m6⟩ := open_int Try.underlying3 (hval 6 3 v6 rfl rfl) h6
  have z6 := bounds_i64 m6
  have k7 := h7
  have lt7 : ∀ x ∈ p7, x.block < W.heap.size := by obtain ⟨m, hm⟩ := k7; exact DataW.trod_lt m _ _ _ hm
  obtain ⟨fu7, hf7⟩ := h7
  obtain ⟨A7, n7, c7, rfl⟩ := okWide_slice Try.underlying51 (hval 7 51 v7 rfl rfl)
  obtain ⟨A7', n7', c7', l7, he7, hr7, hl7, ho7⟩ := Go.Q.OT.slice (P := Try.prog) (t := 51) (sz := 1) (fun o : Int => [Value.int .i64 o]) (fun o : Int => -9223372036854775808 ≤ o ∧ o ≤ 9223372036854775807) ⟨fu7, _, hf7⟩ Try.underlying51 (by kernel_rfl) (fun cs_ h1_ => h1_.i64 Try.underlying3) (fun _ _ => rfl)
  obtain ⟨rfl, rfl, rfl⟩ : A7 = A7' ∧ n7 = n7' ∧ c7 = c7' := by simpa [Value.cells] using he7
  clear hA0 hval0
  refine (StoreCut_ok b0 b1 b2 b3 a4 a5 a6 A7 n7 c7 l7 W (by omega) (by omega) (by omega) (by omega) ok4 ok5 z6.1 z6.2 hr7 hl7 ho7).mono fun e W' ⟨he, bel⟩ => ?_
  subst he
  exact ⟨_, rfl, _, _, _, [], _, [], hW', trodAll_mk1 (shut_bool Try.underlying4 _), (trodAll_cons_mk (shut_int Try.underlying5 m0) (trodAll_cons_mk (shut_int Try.underlying5 m1) (trodAll_cons_mk (shut_int Try.underlying5 m2) (trodAll_cons_mk (shut_int Try.underlying5 m3) (trodAll_cons_mk (Below.trod storeCut_laid (by kernel_rfl) (of_decide_eq_true (by kernel_rfl)) k4 bel lt4) (trodAll_cons_mk (Below.trod storeCut_laid (by kernel_rfl) (of_decide_eq_true (by kernel_rfl)) k5 bel lt5) (trodAll_cons_mk (shut_int Try.underlying3 m6) (trodAll_cons_mk (Below.trod storeCut_laid (by kernel_rfl) (of_decide_eq_true (by kernel_rfl)) k7 bel lt7) trodAll_mk0)))))))), rfl, bel.frame _, fun h => by cases h⟩
theorem storeCut_holds : Rows.StoreCutSaid :=
  OpenClaim.holds_of_wide 6 Try.f6 rfl rfl rfl rfl rfl rfl rfl ⟨rfl, rfl, rfl, rfl, rfl⟩ rfl rfl rfl rfl rfl (by kernel_rfl) Try.func6 (by kernel_rfl)
    (of_decide_eq_true (by kernel_rfl)) (by unfold Func.isWrapper; first | (rw [if_pos (by decide +kernel)]; kernel_rfl) | (rw [if_neg (by decide +kernel)]; exact ⟨rfl, rfl⟩))
    (fun os started H enc _ => storeCut_lifted os started H enc)
end Go.Proofs.Ytpncaeadbfdflaa
