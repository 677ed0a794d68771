/- The given statement Rows.TapeRoomSaid: quayside/quaysidelaw08.TapeRoom returns true for all arguments, and leaves its arguments as they were. No further condition. -/
import Derived.Test.YtdanpfiombbdoaaFns1
import Derived.Test.YtdanpfiombbdoaaRows
import Derived.Test.YtdanpfiombbdoaaArgs
import Derived.WalkKit
import Derived.ProofKit
import Derived.OpenShut
import Derived.ShutString
import Derived.ChangeOld
import Derived.Below
import Derived.SizedLaws
import Derived.JoinedCond
set_option linter.unusedSimpArgs false
set_option linter.unusedVariables false
set_option maxRecDepth 10000
namespace Go.Proofs.Ytdanpfiombbdoaa
open Go.Q Go.RowKit Go.Proofs
theorem Try.fn10 : Fnc Try.prog 10 Try.f10 := ⟨Try.func10, by kernel_rfl, by kernel_rfl⟩
theorem Try.fn16 : Fnc Try.prog 16 Try.f16 := ⟨Try.func16, by kernel_rfl, by kernel_rfl⟩
theorem Try.fn18 : Fnc Try.prog 18 Try.f18 := ⟨Try.func18, by kernel_rfl, by kernel_rfl⟩
theorem Try.fn19 : Fnc Try.prog 19 Try.f19 := ⟨Try.func19, by kernel_rfl, by kernel_rfl⟩
theorem TapeRoom_ok (room : Int) (n : Int) (cut : Int) (chop : Bool) (w0 : World) (hroom1 : -9223372036854775808 ≤ room) (hroom2 : room ≤ 9223372036854775807) (hn1 : -9223372036854775808 ≤ n) (hn2 : n ≤ 9223372036854775807) (hcut1 : -9223372036854775808 ≤ cut) (hcut2 : cut ≤ 9223372036854775807) :
    Calls Try.prog 6 #[.int .i64 room, .int .i64 n, .int .i64 cut, .bool chop] w0 fun e w => e = .returned (.bool true) ∧ Below w0.heap.size w0 w := by
  refine enter (args := [.int .i64 room, .int .i64 n, .int .i64 cut, .bool chop]) Try.func6 rfl Try.ntmps6 rfl ?_
  have H := Sat.start w0
  refine cw_seq ?_
  -- region 0 law.go:137
  refine cw_region (clf [.U]) [0] rfl (by kernel_rfl) (by decide) ?_
  refine TF.u (v := (.bool _)) rfl rfl (pr_assign rfl) ?_
  refine TF.nil (nx_then ?_)
  refine cw_seq ?_
  refine cw_seq ?_
  -- region 1 law.go:138
  refine cw_region (clf [.X, .U, .U, .U, .U, .U, .U, .U, .U, .U, .U, .U, .U, .U, .U, .U, .U, .U]) [0, 1, 2, 3, 4, 5, 6, 7, 8, 9, 10, 11, 12, 13, 14, 15, 16, 17] rfl (by kernel_rfl) (by decide) ?_
  refine TF.call (args := []) Try.fn10 rfl rfl (wantF_none rfl) rfl (awake_ok _) ?_
  rintro e_ w ⟨rfl, hb1⟩
  refine ⟨_, rfl, ?_⟩
  replace H := H.below hb1
  refine TF.u (v := (.bool _)) rfl rfl (pr_not rfl) ?_
  refine TF.u (v := (.bool _)) rfl rfl (pr_move rfl) ?_
  refine TF.ug (v := (.int .i64 _)) rfl rfl (wantF_yes rfl rfl rfl rfl) (pr_move rfl) ?_
  refine TF.ug (v := (.bool _)) rfl rfl (wantF_yes rfl rfl rfl rfl) (pr_lss rfl rfl) ?_
  refine TF.u (v := (.bool _)) rfl rfl (pr_pickF rfl rfl rfl) ?_
  refine TF.u (v := (.bool _)) rfl rfl (pr_move rfl) ?_
  refine TF.split (dj := 18) rfl (fun hq3 => ?_) (fun hq3 => ?_)
  ·
    have hp3 := dT hq3
    refine TF.skip rfl (wantF_no rfl rfl rfl hq3) ?_
    refine TF.skip rfl (wantF_no rfl rfl rfl hq3) ?_
    refine TF.u (v := (.bool _)) rfl rfl (pr_pickT rfl hq3 rfl) ?_
    refine TF.u (v := (.bool _)) rfl rfl (pr_move rfl) ?_
    refine TF.skip rfl (wantF_no rfl rfl rfl rfl) ?_
    refine TF.skip rfl (wantF_no rfl rfl rfl rfl) ?_
    refine TF.u (v := (.bool _)) rfl rfl (pr_pickT rfl rfl rfl) ?_
    refine TF.u (v := (.bool _)) rfl rfl (pr_move rfl) ?_
    refine TF.skip rfl (wantF_no rfl rfl rfl rfl) ?_
    refine TF.skip rfl (wantF_no rfl rfl rfl rfl) ?_
    refine TF.u (v := (.bool _)) rfl rfl (pr_pickT rfl rfl rfl) ?_
    refine TF.nil (nx_then ?_)
    refine cw_condT (t := _) rfl rfl rfl ?_
    refine cw_seq ?_
    -- region 2 law.go:139
    refine cw_region (clf [.X, .U]) [0, 1] rfl (by kernel_rfl) (by decide) ?_
    refine TF.call (args := []) Try.fn10 rfl rfl (wantF_none rfl) rfl (awake_ok _) ?_
    rintro e_ w ⟨rfl, hb4⟩
    refine ⟨_, rfl, ?_⟩
    replace H := H.below hb4
    refine TF.u (v := (.bool _)) rfl rfl (pr_assign rfl) ?_
    refine TF.nil (nx_then ?_)
    refine cw_ret (rt_then (fin1 (v := (.bool _)) Try.results6 rfl rfl ?_))
    exact ⟨by simp, H.base⟩
  ·
    have hp3 := dF hq3
    refine TF.ug (v := (.int .i64 _)) rfl rfl (wantF_yes rfl rfl rfl hq3) (pr_move rfl) ?_
    refine TF.ug (v := (.bool _)) rfl rfl (wantF_yes rfl rfl rfl hq3) (pr_gtr rfl rfl) ?_
    refine TF.u (v := (.bool _)) rfl rfl (pr_pickF rfl hq3 rfl) ?_
    refine TF.u (v := (.bool _)) rfl rfl (pr_move rfl) ?_
    refine TF.split (dj := 22) rfl (fun hq6 => ?_) (fun hq6 => ?_)
    ·
      have hp6 := dT hq6
      refine TF.skip rfl (wantF_no rfl rfl rfl hq6) ?_
      refine TF.skip rfl (wantF_no rfl rfl rfl hq6) ?_
      refine TF.u (v := (.bool _)) rfl rfl (pr_pickT rfl hq6 rfl) ?_
      refine TF.u (v := (.bool _)) rfl rfl (pr_move rfl) ?_
      refine TF.skip rfl (wantF_no rfl rfl rfl rfl) ?_
      refine TF.skip rfl (wantF_no rfl rfl rfl rfl) ?_
      refine TF.u (v := (.bool _)) rfl rfl (pr_pickT rfl rfl rfl) ?_
      refine TF.nil (nx_then ?_)
      refine cw_condT (t := _) rfl rfl rfl ?_
      refine cw_seq ?_
      -- region 2 law.go:139
      refine cw_region (clf [.X, .U]) [0, 1] rfl (by kernel_rfl) (by decide) ?_
      refine TF.call (args := []) Try.fn10 rfl rfl (wantF_none rfl) rfl (awake_ok _) ?_
      rintro e_ w ⟨rfl, hb7⟩
      refine ⟨_, rfl, ?_⟩
      replace H := H.below hb7
      refine TF.u (v := (.bool _)) rfl rfl (pr_assign rfl) ?_
      refine TF.nil (nx_then ?_)
      refine cw_ret (rt_then (fin1 (v := (.bool _)) Try.results6 rfl rfl ?_))
      exact ⟨by simp, H.base⟩
    ·
      have hp6 := dF hq6
      refine TF.ug (v := (.int .i64 _)) rfl rfl (wantF_yes rfl rfl rfl hq6) (pr_move rfl) ?_
      refine TF.ug (v := (.bool _)) rfl rfl (wantF_yes rfl rfl rfl hq6) (pr_lss rfl rfl) ?_
      refine TF.u (v := (.bool _)) rfl rfl (pr_pickF rfl hq6 rfl) ?_
      refine TF.u (v := (.bool _)) rfl rfl (pr_move rfl) ?_
      refine TF.split (dj := 26) rfl (fun hq9 => ?_) (fun hq9 => ?_)
      ·
        have hp9 := dT hq9
        refine TF.skip rfl (wantF_no rfl rfl rfl hq9) ?_
        refine TF.skip rfl (wantF_no rfl rfl rfl hq9) ?_
        refine TF.u (v := (.bool _)) rfl rfl (pr_pickT rfl hq9 rfl) ?_
        refine TF.nil (nx_then ?_)
        refine cw_condT (t := _) rfl rfl rfl ?_
        refine cw_seq ?_
        -- region 2 law.go:139
        refine cw_region (clf [.X, .U]) [0, 1] rfl (by kernel_rfl) (by decide) ?_
        refine TF.call (args := []) Try.fn10 rfl rfl (wantF_none rfl) rfl (awake_ok _) ?_
        rintro e_ w ⟨rfl, hb10⟩
        refine ⟨_, rfl, ?_⟩
        replace H := H.below hb10
        refine TF.u (v := (.bool _)) rfl rfl (pr_assign rfl) ?_
        refine TF.nil (nx_then ?_)
        refine cw_ret (rt_then (fin1 (v := (.bool _)) Try.results6 rfl rfl ?_))
        exact ⟨by simp, H.base⟩
      ·
        have hp9 := dF hq9
        refine TF.ug (v := (.int .i64 _)) rfl rfl (wantF_yes rfl rfl rfl hq9) (pr_move rfl) ?_
        refine TF.ug (v := (.bool _)) rfl rfl (wantF_yes rfl rfl rfl hq9) (pr_gtr rfl rfl) ?_
        refine TF.u (v := (.bool _)) rfl rfl (pr_pickF rfl hq9 rfl) ?_
        refine TF.nil (nx_then ?_)
        refine cw_cond _ rfl rfl (fun hq12 => ?_) (fun hq12 => ?_)
        ·
          have hp12 := dT hq12
          refine cw_seq ?_
          -- region 2 law.go:139
          refine cw_region (clf [.X, .U]) [0, 1] rfl (by kernel_rfl) (by decide) ?_
          refine TF.call (args := []) Try.fn10 rfl rfl (wantF_none rfl) rfl (awake_ok _) ?_
          rintro e_ w ⟨rfl, hb13⟩
          refine ⟨_, rfl, ?_⟩
          replace H := H.below hb13
          refine TF.u (v := (.bool _)) rfl rfl (pr_assign rfl) ?_
          refine TF.nil (nx_then ?_)
          refine cw_ret (rt_then (fin1 (v := (.bool _)) Try.results6 rfl rfl ?_))
          exact ⟨by simp, H.base⟩
        ·
          have hp12 := dF hq12
          refine cw_skip (nx_then ?_)
          refine cw_seq ?_
          -- region 3 law.go:141
          refine cw_region (clf [.U, .X, .U]) [0, 1, 2] rfl (by kernel_rfl) (by decide) ?_
          obtain ⟨r, rfl⟩ := Int.eq_ofNat_of_zero_le (show 0 ≤ room by omega)
          obtain ⟨m, rfl⟩ := Int.eq_ofNat_of_zero_le (show 0 ≤ n by omega)
          have e1 : tAppend (tNew r) (List.replicate m 0) = if m ≤ r then (⟨List.replicate m 0, 0, r, 0⟩, 0) else (⟨[], 0, r, 0⟩, 7) := tape_room (by omega)
          refine TF.u (v := (.int .i64 _)) rfl rfl (pr_move rfl) ?_
          refine TF.call (args := [(.int .i64 _)]) Try.fn11 rfl rfl (wantF_none rfl) rfl (tnew_ok _ _ (by omega) (by omega)) ?_
          rintro e_ w ⟨tb14, rfl, hn14, ok14⟩
          refine ⟨_, rfl, ?_⟩
          replace H := H.newC hn14
          replace H : Sat _ _ _ [_] := H
          refine TF.u (v := (.pointer (some ⟨_, 0, none⟩))) rfl rfl (pr_assign rfl) ?_
          refine TF.nil (nx_then ?_)
          refine cw_seq ?_
          refine cw_seq ?_
          -- region 4 law.go:142
          refine cw_region (clf [.U, .U]) [0, 1] rfl (by kernel_rfl) (by decide) ?_
          refine TF.u (v := (.pointer (some ⟨_, 0, none⟩))) rfl rfl (pr_move rfl) ?_
          refine TF.u (v := (.bool _)) rfl rfl (pr_peql Try.underlying23 rfl rfl) ?_
          refine TF.nil (nx_then ?_)
          refine cw_condF (t := _) rfl rfl rfl ?_
          refine cw_skip (nx_then ?_)
          refine cw_seq ?_
          refine cw_seq ?_
          -- region 6 law.go:145
          refine cw_region (clf [.U, .U, .X, .X, .U, .U, .U, .U, .U]) [0, 1, 2, 3, 4, 5, 6, 7, 8] rfl (by kernel_rfl) (by decide) ?_
          refine TF.u (v := (.pointer (some ⟨_, 0, none⟩))) rfl rfl (pr_move rfl) ?_
          refine TF.u (v := (.int .i64 _)) rfl rfl (pr_move rfl) ?_
          refine TF.make (nl := m) (nc := m) (z1 := undef) H rfl (Cx.xx rfl) (wantF_none rfl) Try.underlying25 (Try.ty5) rfl rfl (by omega) (by omega) (by unfold maxLen; omega) ?_
          clear H
          intro bk15 w hltbk15 hb16 H
          rw [made_u8] at H
          replace H := H.toOwn (q := 0) (sz := 1) (nl := m) (nc := m) rfl (by simp [u8s_len]) (by omega) (by unfold maxLen; omega)
          replace H : Sat _ _ _ [_, _] := H
          rw [u8s_take, Nat.mul_one, List.take_of_length_le (by simp)] at H
          obtain ⟨F17, hF17, hU17⟩ := H.focus (k := 1) rfl
          refine TF.call (args := [(.pointer (some ⟨_, 0, none⟩)), (.slice _ _ _)]) Try.fn12 rfl rfl (wantF_none rfl) rfl (tappend_ok _ _ _ _ _ _ _ _ hF17 ok14 (H.rd (k := 0) rfl) (by first | omega | (simp only [List.length_append, List.length_cons, List.length_nil]; omega))) ?_
          rintro e_ w ⟨rfl, hu17, ok17⟩
          refine ⟨_, rfl, ?_⟩
          replace H := hU17 hu17
          replace H : Sat _ _ _ [_, _] := H
          refine TF.u (v := (.bool _)) rfl rfl (pr_eql rfl rfl) ?_
          refine TF.u (v := (.int .i64 _)) rfl rfl (pr_move rfl) ?_
          refine TF.u (v := (.int .i64 _)) rfl rfl (pr_move rfl) ?_
          refine TF.u (v := (.bool _)) rfl rfl (pr_leq rfl rfl) ?_
          refine TF.u (v := (.bool _)) rfl rfl (pr_bneq Try.underlying4 rfl rfl) ?_
          refine TF.nil (nx_then ?_)
          refine cw_cond _ rfl rfl (fun hq21 => by
              have hp21 := hq21
              exfalso
              rw [e1] at hp21; split at hp21 <;> simp at hp21 <;> omega) ?_
          intro hq21
          have hp21 := hq21
          refine cw_skip (nx_then ?_)
          refine cw_seq ?_
          refine cw_seq ?_
          -- region 8 law.go:148
          refine cw_region (clf [.U, .U, .U]) [0, 1, 2] rfl (by kernel_rfl) (by decide) ?_
          refine TF.u (v := (.int .i64 _)) rfl rfl (pr_move rfl) ?_
          refine TF.u (v := (.int .i64 _)) rfl rfl (pr_move rfl) ?_
          refine TF.u (v := (.bool _)) rfl rfl (pr_gtr rfl rfl) ?_
          refine TF.nil (nx_then ?_)
          refine cw_cond _ rfl rfl (fun hq23 => ?_) (fun hq23 => ?_)
          ·
            have hp23 := dT hq23
            refine cw_seq ?_
            -- region 9 law.go:149
            refine cw_region (clf [.U, .X, .U, .U]) [0, 1, 2, 3] rfl (by kernel_rfl) (by decide) ?_
            rw [e1, if_neg (by omega)] at H ok17
            refine TF.u (v := (.pointer (some ⟨_, 0, none⟩))) rfl rfl (pr_move rfl) ?_
            obtain ⟨F25, hF25, hU25⟩ := H.focus (k := 1) rfl
            refine TF.call (args := [(.pointer (some ⟨_, 0, none⟩))]) Try.fn17 rfl rfl (wantF_none rfl) rfl (tlen_ok _ _ _ _ hF25 ok17) ?_
            rintro e_ w ⟨rfl, hb24⟩
            refine ⟨_, rfl, ?_⟩
            replace H := H.below hb24
            refine TF.u (v := (.bool _)) rfl rfl (pr_eql rfl rfl) ?_
            refine TF.u (v := (.bool _)) rfl rfl (pr_assign rfl) ?_
            refine TF.nil (nx_then ?_)
            refine cw_ret (rt_then (fin1 (v := (.bool _)) Try.results6 rfl rfl ?_))
            exact ⟨by simp, H.base⟩
          ·
            have hp23 := dF hq23
            refine cw_skip (nx_then ?_)
            refine cw_seq ?_
            refine cw_seq ?_
            -- region 10 law.go:151
            refine cw_region (clf [.U, .X, .U]) [0, 1, 2] rfl (by kernel_rfl) (by decide) ?_
            rw [e1, if_pos (by omega)] at H ok17
            refine TF.u (v := (.pointer (some ⟨_, 0, none⟩))) rfl rfl (pr_move rfl) ?_
            obtain ⟨F27, hF27, hU27⟩ := H.focus (k := 1) rfl
            refine TF.call (args := [(.pointer (some ⟨_, 0, none⟩))]) Try.fn16 rfl rfl (wantF_none rfl) rfl (tsync_ok _ _ _  _ hF27 ok17 ) ?_
            rintro e_ w ⟨rfl, hu27, ok27⟩
            refine ⟨_, rfl, ?_⟩
            replace H := hU27 hu27
            replace H : Sat _ _ _ [_, _] := H
            refine TF.u (v := (.bool _)) rfl rfl (pr_neq rfl rfl) ?_
            refine TF.nil (nx_then ?_)
            refine cw_cond _ rfl rfl (fun hq29 => by
                have hp29 := dF (nT hq29)
                exfalso
                first | omega | exact hp29 rfl | exact hp29 (by decide) | (simp at hp29; done) | (simp at hp29; omega)) ?_
            intro hq29
            have hp29 := dT (nF hq29)
            refine cw_skip (nx_then ?_)
            refine cw_seq ?_
            -- region 12 law.go:154
            refine cw_region (clf [.U, .U, .X, .U, .U, .U]) [0, 1, 2, 3, 4, 5] rfl (by kernel_rfl) (by decide) ?_
            have e2 : tSync ⟨List.replicate m 0, 0, r, 0⟩ = ⟨List.replicate m 0, m, r, 0⟩ := by simp [tSync]
            simp only [e2] at H ok27
            refine TF.u (v := (.pointer (some ⟨_, 0, none⟩))) rfl rfl (pr_move rfl) ?_
            refine TF.u (v := (.int .i64 _)) rfl rfl (pr_move rfl) ?_
            obtain ⟨F30, hF30, hU30⟩ := H.focus (k := 1) rfl
            refine TF.call (args := [(.pointer (some ⟨_, 0, none⟩)), (.int .i64 _)]) Try.fn18 rfl rfl (wantF_none rfl) rfl (tcut_ok _ _ _ _ _ hF30 ok27 (by omega) (by omega)) ?_
            rintro e_ w ⟨rfl, hu30, ok30⟩
            refine ⟨_, rfl, ?_⟩
            replace H := hU30 hu30
            replace H : Sat _ _ _ [_, _] := H
            refine TF.u (v := (.int .i64 _)) rfl rfl (pr_move rfl) ?_
            refine TF.u (v := (.int .i64 _)) rfl rfl (pr_assign rfl) ?_
            refine TF.u (v := (.int .i64 _)) rfl rfl (pr_assign rfl) ?_
            refine TF.nil (nx_then ?_)
            refine cw_seq ?_
            refine cw_seq ?_
            -- region 13 law.go:155
            refine cw_region (clf [.U, .U, .U, .U, .U, .U, .U]) [0, 1, 2, 3, 4, 5, 6] rfl (by kernel_rfl) (by decide) ?_
            refine TF.u (v := (.int .i64 _)) rfl rfl (pr_move rfl) ?_
            refine TF.u (v := (.bool _)) rfl rfl (pr_geq rfl rfl) ?_
            refine TF.u (v := (.bool _)) rfl rfl (pr_move rfl) ?_
            refine TF.split (dj := 59) rfl (fun hq32 => ?_) (fun hq32 => ?_)
            ·
              have hp32 := dT hq32
              refine TF.ug (v := (.int .i64 _)) rfl rfl (wantF_yes rfl rfl rfl hq32) (pr_move rfl) ?_
              refine TF.ug (v := (.int .i64 _)) rfl rfl (wantF_yes rfl rfl rfl hq32) (pr_move rfl) ?_
              refine TF.ug (v := (.bool _)) rfl rfl (wantF_yes rfl rfl rfl hq32) (pr_leq rfl rfl) ?_
              refine TF.u (v := (.bool _)) rfl rfl (pr_pickT rfl hq32 rfl) ?_
              refine TF.nil (nx_then ?_)
              refine cw_cond _ rfl rfl (fun hq34 => ?_) (fun hq34 => ?_)
              ·
                have hp34 := dT hq34
                -- region 14 law.go:156
                refine cw_region (clf [.U, .U, .U, .U]) [0, 1, 2, 3] rfl (by kernel_rfl) (by decide) ?_
                obtain ⟨k, rfl⟩ := Int.eq_ofNat_of_zero_le (show 0 ≤ cut by omega)
                have hkm : k ≤ m := by omega
                have e3 : tCut ⟨List.replicate m 0, m, r, 0⟩ (k : Int) = (⟨List.replicate (m - k) 0, m - k, r, (0 + k) % 18446744073709551616⟩, 0) := by rw [tCut_yes hkm, List.drop_replicate]
                rw [e3] at H ok30 ⊢
                refine TF.u (v := (.int .i64 _)) rfl rfl (pr_move rfl) ?_
                refine TF.u (v := (.int .i64 _)) rfl rfl (pr_move rfl) ?_
                refine TF.u (v := (.int .i64 _)) rfl rfl (pr_sub rfl rfl (show _ = ((m - k : Nat) : Int) from (IntWalk.i64_in _ (by omega)).trans (by omega))) ?_
                refine TF.u (v := (.int .i64 _)) rfl rfl (pr_assign rfl) ?_
                refine TF.nil (nx_then ?_)
                refine cw_seq ?_
                refine cw_seq ?_
                -- region 15 law.go:158
                refine cw_region (clf [.U, .U, .U, .U, .U, .U, .U, .U, .U, .U, .U, .U, .X, .U, .U, .U]) [0, 1, 2, 3, 4, 5, 6, 7, 8, 9, 10, 11, 12, 13, 14, 15] rfl (by kernel_rfl) (by decide) ?_
                skip
                refine TF.u (v := (.int .i64 _)) rfl rfl (pr_move rfl) ?_
                refine TF.u (v := (.bool _)) rfl rfl (pr_eql rfl rfl) ?_
                refine TF.u (v := (.int .i64 _)) rfl rfl (pr_move rfl) ?_
                refine TF.u (v := (.bool _)) rfl rfl (pr_geq rfl rfl) ?_
                refine TF.u (v := (.bool _)) rfl rfl (pr_move rfl) ?_
                refine TF.split (dj := 71) rfl (fun hq37 => ?_) (fun hq37 => ?_)
                ·
                  have hp37 := dT hq37
                  refine TF.ug (v := (.int .i64 _)) rfl rfl (wantF_yes rfl rfl rfl hq37) (pr_move rfl) ?_
                  refine TF.ug (v := (.int .i64 _)) rfl rfl (wantF_yes rfl rfl rfl hq37) (pr_move rfl) ?_
                  refine TF.ug (v := (.bool _)) rfl rfl (wantF_yes rfl rfl rfl hq37) (pr_leq rfl rfl) ?_
                  refine TF.u (v := (.bool _)) rfl rfl (pr_pickT rfl hq37 rfl) ?_
                  refine TF.u (v := (.bool _)) rfl rfl (pr_bneq Try.underlying4 rfl rfl) ?_
                  refine TF.u (v := (.bool _)) rfl rfl (pr_move rfl) ?_
                  refine TF.split (dj := 77) rfl (fun hq40 => by
                      have hp40 := hq40
                      exfalso
                      first | omega | exact hp40 rfl | exact hp40 (by decide) | (simp at hp40; done) | (simp at hp40; omega)) ?_
                  intro hq40
                  have hp40 := hq40
                  refine TF.ug (v := (.pointer (some ⟨_, 0, none⟩))) rfl rfl (wantF_yes rfl rfl rfl hq40) (pr_move rfl) ?_
                  obtain ⟨F42, hF42, hU42⟩ := H.focus (k := 1) rfl
                  refine TF.call (args := [(.pointer (some ⟨_, 0, none⟩))]) Try.fn17 rfl rfl (wantF_yes rfl rfl rfl hq40) rfl (tlen_ok _ _ _ _ hF42 ok30) ?_
                  rintro e_ w ⟨rfl, hb41⟩
                  refine ⟨_, rfl, ?_⟩
                  replace H := H.below hb41
                  refine TF.ug (v := (.int .i64 _)) rfl rfl (wantF_yes rfl rfl rfl hq40) (pr_move rfl) ?_
                  refine TF.ug (v := (.bool _)) rfl rfl (wantF_yes rfl rfl rfl hq40) (pr_neq rfl rfl) ?_
                  refine TF.u (v := (.bool _)) rfl rfl (pr_pickF rfl hq40 rfl) ?_
                  refine TF.nil (nx_then ?_)
                  refine cw_cond _ rfl rfl (fun hq44 => by
                      have hp44 := dF (nT hq44)
                      exfalso
                      first | omega | exact hp44 rfl | exact hp44 (by decide) | (simp at hp44; done) | (simp at hp44; omega)) ?_
                  intro hq44
                  have hp44 := dT (nF hq44)
                  refine cw_skip (nx_then ?_)
                  refine cw_seq ?_
                  refine cw_seq ?_
                  -- region 17 law.go:161
                  refine cw_region (clf [.U]) [0] rfl (by kernel_rfl) (by decide) ?_
                  refine TF.u (v := (.bool _)) rfl rfl (pr_move rfl) ?_
                  refine TF.nil (nx_then ?_)
                  refine cw_cond _ rfl rfl (fun hq45 => ?_) (fun hq45 => ?_)
                  ·
                    have hp45 := hq45
                    refine cw_seq ?_
                    refine cw_seq ?_
                    -- region 18 law.go:162
                    refine cw_region (clf [.U, .U, .U, .X, .U]) [0, 1, 2, 3, 4] rfl (by kernel_rfl) (by decide) ?_
                    have hdv : (((m - k) : Nat) : Int).tdiv 2 = (((m - k) / 2 : Nat) : Int) := rfl
                    have e4 : tChop ⟨List.replicate (m - k) 0, (m - k), r, ((0 + k) % 18446744073709551616)⟩ (((m - k) / 2 : Nat) : Int) = (⟨List.replicate ((m - k) / 2) 0, min (m - k) ((m - k) / 2), r, ((0 + k) % 18446744073709551616)⟩, 0) := by rw [tChop_yes (by simp; omega)]; simp; omega
                    refine TF.u (v := (.pointer (some ⟨_, 0, none⟩))) rfl rfl (pr_move rfl) ?_
                    refine TF.u (v := (.int .i64 _)) rfl rfl (pr_move rfl) ?_
                    refine TF.u (v := (.int .i64 _)) rfl rfl (pr_quo rfl rfl (by omega) (show _ = (((m - k) / 2 : Nat) : Int) from (IntWalk.i64_in _ (by omega)).trans (by omega))) ?_
                    obtain ⟨F46, hF46, hU46⟩ := H.focus (k := 1) rfl
                    refine TF.call (args := [(.pointer (some ⟨_, 0, none⟩)), (.int .i64 _)]) Try.fn19 rfl rfl (wantF_none rfl) rfl (tchop_ok _ _ _ _ _ hF46 ok30 (by omega) (by omega)) ?_
                    rintro e_ w ⟨rfl, hu46, ok46⟩
                    refine ⟨_, rfl, ?_⟩
                    replace H := hU46 hu46
                    replace H : Sat _ _ _ [_, _] := H
                    refine TF.u (v := (.bool _)) rfl rfl (pr_neq rfl rfl) ?_
                    refine TF.nil (nx_then ?_)
                    refine cw_cond _ rfl rfl (fun hq48 => by
                        have hp48 := dF (nT hq48)
                        exfalso
                        exact hp48 (by rw [e4])) ?_
                    intro hq48
                    have hp48 := dT (nF hq48)
                    refine cw_skip (nx_then ?_)
                    -- region 20 law.go:165
                    refine cw_region (clf [.U, .U, .U]) [0, 1, 2] rfl (by kernel_rfl) (by decide) ?_
                    simp only [e4] at H ok46
                    refine TF.u (v := (.int .i64 _)) rfl rfl (pr_move rfl) ?_
                    refine TF.u (v := (.int .i64 _)) rfl rfl (pr_quo rfl rfl (by omega) (show _ = (((m - k) / 2 : Nat) : Int) from (IntWalk.i64_in _ (by omega)).trans (by omega))) ?_
                    refine TF.u (v := (.int .i64 _)) rfl rfl (pr_assign rfl) ?_
                    refine TF.nil (nx_then ?_)
                    refine cw_seq ?_
                    -- region 21 law.go:167
                    refine cw_region (clf [.U, .U, .U, .U, .U, .X, .X, .U, .U, .U, .U, .U, .U, .X, .X, .U, .U, .U, .U, .X, .U, .U, .U, .U]) [0, 1, 2, 3, 4, 5, 6, 7, 8, 9, 10, 11, 12, 13, 14, 15, 16, 17, 18, 19, 20, 21, 22, 23] rfl (by kernel_rfl) (by decide) ?_
                    have e5 : tAppend ⟨List.replicate ((m - k) / 2) 0, (min (m - k) ((m - k) / 2)), r, ((0 + k) % 18446744073709551616)⟩ (List.replicate (r - ((m - k) / 2) + 1) 0) = (⟨List.replicate ((m - k) / 2) 0, (min (m - k) ((m - k) / 2)), r, ((0 + k) % 18446744073709551616)⟩, 7) := tAppend_no (by simp; omega)
                    have e6 : tAppend ⟨List.replicate ((m - k) / 2) 0, (min (m - k) ((m - k) / 2)), r, ((0 + k) % 18446744073709551616)⟩ (List.replicate (r - ((m - k) / 2)) 0) = (⟨List.replicate ((m - k) / 2) 0 ++ List.replicate (r - ((m - k) / 2)) 0, (min (m - k) ((m - k) / 2)), r, ((0 + k) % 18446744073709551616)⟩, 0) := tAppend_yes (by simp; omega)
                    refine TF.u (v := (.pointer (some ⟨_, 0, none⟩))) rfl rfl (pr_move rfl) ?_
                    refine TF.u (v := (.int .i64 _)) rfl rfl (pr_move rfl) ?_
                    refine TF.u (v := (.int .i64 _)) rfl rfl (pr_move rfl) ?_
                    refine TF.u (v := (.int .i64 _)) rfl rfl (pr_sub rfl rfl (show _ = ((r - ((m - k) / 2) : Nat) : Int) from (IntWalk.i64_in _ (by omega)).trans (by omega))) ?_
                    refine TF.u (v := (.int .i64 _)) rfl rfl (pr_add rfl rfl (show _ = ((r - ((m - k) / 2) + 1 : Nat) : Int) from (IntWalk.i64_in _ (by omega)).trans (by omega))) ?_
                    refine TF.make (nl := r - ((m - k) / 2) + 1) (nc := r - ((m - k) / 2) + 1) (z1 := undef) H rfl (Cx.xx rfl) (wantF_none rfl) Try.underlying25 (Try.ty5) rfl rfl (by omega) (by omega) (by unfold maxLen; omega) ?_
                    clear H
                    intro bk49 w hltbk49 hb50 H
                    rw [made_u8] at H
                    replace H := H.toOwn (q := 0) (sz := 1) (nl := r - ((m - k) / 2) + 1) (nc := r - ((m - k) / 2) + 1) rfl (by simp [u8s_len]) (by omega) (by unfold maxLen; omega)
                    replace H : Sat _ _ _ [_, _, _] := H
                    rw [u8s_take, Nat.mul_one, List.take_of_length_le (by simp)] at H
                    obtain ⟨F51, hF51, hU51⟩ := H.focus (k := 2) rfl
                    refine TF.call (args := [(.pointer (some ⟨_, 0, none⟩)), (.slice _ _ _)]) Try.fn12 rfl rfl (wantF_none rfl) rfl (tappend_ok _ _ _ _ _ _ _ _ hF51 ok46 (H.rd (k := 0) rfl) (by first | omega | (simp only [List.length_append, List.length_cons, List.length_nil]; omega))) ?_
                    rintro e_ w ⟨rfl, hu51, ok51⟩
                    refine ⟨_, rfl, ?_⟩
                    replace H := hU51 hu51
                    replace H : Sat _ _ _ [_, _, _] := H
                    refine TF.u (v := (.bool _)) rfl rfl (pr_eql rfl rfl) ?_
                    refine TF.u (v := (.bool _)) rfl rfl (pr_move rfl) ?_
                    refine TF.split (dj := 99) rfl ?_ (fun hq53 => by
                        have hp53 := dF hq53
                        exfalso
                        exact hp53 (by rw [e5]))
                    intro hq53
                    have hp53 := dT hq53
                    refine TF.ug (v := (.pointer (some ⟨_, 0, none⟩))) rfl rfl (wantF_yes rfl rfl rfl hq53) (pr_move rfl) ?_
                    refine TF.ug (v := (.int .i64 _)) rfl rfl (wantF_yes rfl rfl rfl hq53) (pr_move rfl) ?_
                    refine TF.ug (v := (.int .i64 _)) rfl rfl (wantF_yes rfl rfl rfl hq53) (pr_move rfl) ?_
                    refine TF.ug (v := (.int .i64 _)) rfl rfl (wantF_yes rfl rfl rfl hq53) (pr_sub rfl rfl (show _ = ((r - ((m - k) / 2) : Nat) : Int) from (IntWalk.i64_in _ (by omega)).trans (by omega))) ?_
                    refine TF.make (nl := r - ((m - k) / 2)) (nc := r - ((m - k) / 2)) (z1 := undef) H rfl (Cx.xx rfl) (wantF_yes rfl rfl rfl hq53) Try.underlying25 (Try.ty5) rfl rfl (by omega) (by omega) (by unfold maxLen; omega) ?_
                    clear H
                    intro bk54 w hltbk54 hb55 H
                    rw [made_u8] at H
                    replace H := H.toOwn (q := 0) (sz := 1) (nl := r - ((m - k) / 2)) (nc := r - ((m - k) / 2)) rfl (by simp [u8s_len]) (by omega) (by unfold maxLen; omega)
                    replace H : Sat _ _ _ [_, _, _, _] := H
                    rw [u8s_take, Nat.mul_one, List.take_of_length_le (by simp)] at H
                    obtain ⟨F56, hF56, hU56⟩ := H.focus (k := 3) rfl
                    refine TF.call (args := [(.pointer (some ⟨_, 0, none⟩)), (.slice _ _ _)]) Try.fn12 rfl rfl (wantF_yes rfl rfl rfl hq53) rfl (tappend_ok _ _ _ _ _ _ _ _ hF56 ok51 (H.rd (k := 0) rfl) (by first | omega | (simp only [List.length_append, List.length_cons, List.length_nil]; omega))) ?_
                    rintro e_ w ⟨rfl, hu56, ok56⟩
                    refine ⟨_, rfl, ?_⟩
                    replace H := hU56 hu56
                    replace H : Sat _ _ _ [_, _, _, _] := H
                    refine TF.ug (v := (.bool _)) rfl rfl (wantF_yes rfl rfl rfl hq53) (pr_eql rfl rfl) ?_
                    refine TF.u (v := (.bool _)) rfl rfl (pr_pickT rfl hq53 rfl) ?_
                    refine TF.u (v := (.bool _)) rfl rfl (pr_move rfl) ?_
                    refine TF.split (dj := 108) rfl ?_ (fun hq58 => by
                        have hp58 := dF hq58
                        exfalso
                        exact hp58 (by rw [e5]; rw [e6]))
                    intro hq58
                    have hp58 := dT hq58
                    refine TF.ug (v := (.pointer (some ⟨_, 0, none⟩))) rfl rfl (wantF_yes rfl rfl rfl hq58) (pr_move rfl) ?_
                    obtain ⟨F60, hF60, hU60⟩ := H.focus (k := 3) rfl
                    refine TF.call (args := [(.pointer (some ⟨_, 0, none⟩))]) Try.fn17 rfl rfl (wantF_yes rfl rfl rfl hq58) rfl (tlen_ok _ _ _ _ hF60 ok56) ?_
                    rintro e_ w ⟨rfl, hb59⟩
                    refine ⟨_, rfl, ?_⟩
                    replace H := H.below hb59
                    refine TF.ug (v := (.int .i64 _)) rfl rfl (wantF_yes rfl rfl rfl hq58) (pr_move rfl) ?_
                    refine TF.ug (v := (.bool _)) rfl rfl (wantF_yes rfl rfl rfl hq58) (pr_eql rfl rfl) ?_
                    refine TF.u (v := (.bool _)) rfl rfl (pr_pickT rfl hq58 rfl) ?_
                    refine TF.u (v := (.bool _)) rfl rfl (pr_assign rfl) ?_
                    refine TF.nil (nx_then ?_)
                    refine cw_ret (fin1 (v := (.bool _)) Try.results6 rfl rfl ?_)
                    exact ⟨by rw [e5]; rw [e6]; simp; omega, H.base⟩
                  ·
                    have hp45 := hq45
                    refine cw_skip (nx_then ?_)
                    refine cw_seq ?_
                    -- region 21 law.go:167
                    refine cw_region (clf [.U, .U, .U, .U, .U, .X, .X, .U, .U, .U, .U, .U, .U, .X, .X, .U, .U, .U, .U, .X, .U, .U, .U, .U]) [0, 1, 2, 3, 4, 5, 6, 7, 8, 9, 10, 11, 12, 13, 14, 15, 16, 17, 18, 19, 20, 21, 22, 23] rfl (by kernel_rfl) (by decide) ?_
                    have e5 : tAppend ⟨List.replicate (m - k) 0, (m - k), r, ((0 + k) % 18446744073709551616)⟩ (List.replicate (r - (m - k) + 1) 0) = (⟨List.replicate (m - k) 0, (m - k), r, ((0 + k) % 18446744073709551616)⟩, 7) := tAppend_no (by simp; omega)
                    have e6 : tAppend ⟨List.replicate (m - k) 0, (m - k), r, ((0 + k) % 18446744073709551616)⟩ (List.replicate (r - (m - k)) 0) = (⟨List.replicate (m - k) 0 ++ List.replicate (r - (m - k)) 0, (m - k), r, ((0 + k) % 18446744073709551616)⟩, 0) := tAppend_yes (by simp; omega)
                    refine TF.u (v := (.pointer (some ⟨_, 0, none⟩))) rfl rfl (pr_move rfl) ?_
                    refine TF.u (v := (.int .i64 _)) rfl rfl (pr_move rfl) ?_
                    refine TF.u (v := (.int .i64 _)) rfl rfl (pr_move rfl) ?_
                    refine TF.u (v := (.int .i64 _)) rfl rfl (pr_sub rfl rfl (show _ = ((r - (m - k) : Nat) : Int) from (IntWalk.i64_in _ (by omega)).trans (by omega))) ?_
                    refine TF.u (v := (.int .i64 _)) rfl rfl (pr_add rfl rfl (show _ = ((r - (m - k) + 1 : Nat) : Int) from (IntWalk.i64_in _ (by omega)).trans (by omega))) ?_
                    refine TF.make (nl := r - (m - k) + 1) (nc := r - (m - k) + 1) (z1 := undef) H rfl (Cx.xx rfl) (wantF_none rfl) Try.underlying25 (Try.ty5) rfl rfl (by omega) (by omega) (by unfold maxLen; omega) ?_
                    clear H
                    intro bk62 w hltbk62 hb63 H
                    rw [made_u8] at H
                    replace H := H.toOwn (q := 0) (sz := 1) (nl := r - (m - k) + 1) (nc := r - (m - k) + 1) rfl (by simp [u8s_len]) (by omega) (by unfold maxLen; omega)
                    replace H : Sat _ _ _ [_, _, _] := H
                    rw [u8s_take, Nat.mul_one, List.take_of_length_le (by simp)] at H
                    obtain ⟨F64, hF64, hU64⟩ := H.focus (k := 2) rfl
                    refine TF.call (args := [(.pointer (some ⟨_, 0, none⟩)), (.slice _ _ _)]) Try.fn12 rfl rfl (wantF_none rfl) rfl (tappend_ok _ _ _ _ _ _ _ _ hF64 ok30 (H.rd (k := 0) rfl) (by first | omega | (simp only [List.length_append, List.length_cons, List.length_nil]; omega))) ?_
                    rintro e_ w ⟨rfl, hu64, ok64⟩
                    refine ⟨_, rfl, ?_⟩
                    replace H := hU64 hu64
                    replace H : Sat _ _ _ [_, _, _] := H
                    refine TF.u (v := (.bool _)) rfl rfl (pr_eql rfl rfl) ?_
                    refine TF.u (v := (.bool _)) rfl rfl (pr_move rfl) ?_
                    refine TF.split (dj := 99) rfl ?_ (fun hq66 => by
                        have hp66 := dF hq66
                        exfalso
                        exact hp66 (by rw [e5]))
                    intro hq66
                    have hp66 := dT hq66
                    refine TF.ug (v := (.pointer (some ⟨_, 0, none⟩))) rfl rfl (wantF_yes rfl rfl rfl hq66) (pr_move rfl) ?_
                    refine TF.ug (v := (.int .i64 _)) rfl rfl (wantF_yes rfl rfl rfl hq66) (pr_move rfl) ?_
                    refine TF.ug (v := (.int .i64 _)) rfl rfl (wantF_yes rfl rfl rfl hq66) (pr_move rfl) ?_
                    refine TF.ug (v := (.int .i64 _)) rfl rfl (wantF_yes rfl rfl rfl hq66) (pr_sub rfl rfl (show _ = ((r - (m - k) : Nat) : Int) from (IntWalk.i64_in _ (by omega)).trans (by omega))) ?_
                    refine TF.make (nl := r - (m - k)) (nc := r - (m - k)) (z1 := undef) H rfl (Cx.xx rfl) (wantF_yes rfl rfl rfl hq66) Try.underlying25 (Try.ty5) rfl rfl (by omega) (by omega) (by unfold maxLen; omega) ?_
                    clear H
                    intro bk67 w hltbk67 hb68 H
                    rw [made_u8] at H
                    replace H := H.toOwn (q := 0) (sz := 1) (nl := r - (m - k)) (nc := r - (m - k)) rfl (by simp [u8s_len]) (by omega) (by unfold maxLen; omega)
                    replace H : Sat _ _ _ [_, _, _, _] := H
                    rw [u8s_take, Nat.mul_one, List.take_of_length_le (by simp)] at H
                    obtain ⟨F69, hF69, hU69⟩ := H.focus (k := 3) rfl
                    refine TF.call (args := [(.pointer (some ⟨_, 0, none⟩)), (.slice _ _ _)]) Try.fn12 rfl rfl (wantF_yes rfl rfl rfl hq66) rfl (tappend_ok _ _ _ _ _ _ _ _ hF69 ok64 (H.rd (k := 0) rfl) (by first | omega | (simp only [List.length_append, List.length_cons, List.length_nil]; omega))) ?_
                    rintro e_ w ⟨rfl, hu69, ok69⟩
                    refine ⟨_, rfl, ?_⟩
                    replace H := hU69 hu69
                    replace H : Sat _ _ _ [_, _, _, _] := H
                    refine TF.ug (v := (.bool _)) rfl rfl (wantF_yes rfl rfl rfl hq66) (pr_eql rfl rfl) ?_
                    refine TF.u (v := (.bool _)) rfl rfl (pr_pickT rfl hq66 rfl) ?_
                    refine TF.u (v := (.bool _)) rfl rfl (pr_move rfl) ?_
                    refine TF.split (dj := 108) rfl ?_ (fun hq71 => by
                        have hp71 := dF hq71
                        exfalso
                        exact hp71 (by rw [e5]; rw [e6]))
                    intro hq71
                    have hp71 := dT hq71
                    refine TF.ug (v := (.pointer (some ⟨_, 0, none⟩))) rfl rfl (wantF_yes rfl rfl rfl hq71) (pr_move rfl) ?_
                    obtain ⟨F73, hF73, hU73⟩ := H.focus (k := 3) rfl
                    refine TF.call (args := [(.pointer (some ⟨_, 0, none⟩))]) Try.fn17 rfl rfl (wantF_yes rfl rfl rfl hq71) rfl (tlen_ok _ _ _ _ hF73 ok69) ?_
                    rintro e_ w ⟨rfl, hb72⟩
                    refine ⟨_, rfl, ?_⟩
                    replace H := H.below hb72
                    refine TF.ug (v := (.int .i64 _)) rfl rfl (wantF_yes rfl rfl rfl hq71) (pr_move rfl) ?_
                    refine TF.ug (v := (.bool _)) rfl rfl (wantF_yes rfl rfl rfl hq71) (pr_eql rfl rfl) ?_
                    refine TF.u (v := (.bool _)) rfl rfl (pr_pickT rfl hq71 rfl) ?_
                    refine TF.u (v := (.bool _)) rfl rfl (pr_assign rfl) ?_
                    refine TF.nil (nx_then ?_)
                    refine cw_ret (fin1 (v := (.bool _)) Try.results6 rfl rfl ?_)
                    exact ⟨by rw [e5]; rw [e6]; simp; omega, H.base⟩
                ·
                  have hp37 := dF hq37
                  refine TF.skip rfl (wantF_no rfl rfl rfl hq37) ?_
                  refine TF.skip rfl (wantF_no rfl rfl rfl hq37) ?_
                  refine TF.skip rfl (wantF_no rfl rfl rfl hq37) ?_
                  refine TF.u (v := (.bool _)) rfl rfl (pr_pickF rfl hq37 rfl) ?_
                  refine TF.u (v := (.bool _)) rfl rfl (pr_bneq Try.underlying4 rfl rfl) ?_
                  refine TF.u (v := (.bool _)) rfl rfl (pr_move rfl) ?_
                  refine TF.split (dj := 77) rfl (fun hq76 => by
                      have hp76 := hq76
                      exfalso
                      first | omega | exact hp76 rfl | exact hp76 (by decide) | (simp at hp76; done) | (simp at hp76; omega)) ?_
                  intro hq76
                  have hp76 := hq76
                  refine TF.ug (v := (.pointer (some ⟨_, 0, none⟩))) rfl rfl (wantF_yes rfl rfl rfl hq76) (pr_move rfl) ?_
                  obtain ⟨F78, hF78, hU78⟩ := H.focus (k := 1) rfl
                  refine TF.call (args := [(.pointer (some ⟨_, 0, none⟩))]) Try.fn17 rfl rfl (wantF_yes rfl rfl rfl hq76) rfl (tlen_ok _ _ _ _ hF78 ok30) ?_
                  rintro e_ w ⟨rfl, hb77⟩
                  refine ⟨_, rfl, ?_⟩
                  replace H := H.below hb77
                  refine TF.ug (v := (.int .i64 _)) rfl rfl (wantF_yes rfl rfl rfl hq76) (pr_move rfl) ?_
                  refine TF.ug (v := (.bool _)) rfl rfl (wantF_yes rfl rfl rfl hq76) (pr_neq rfl rfl) ?_
                  refine TF.u (v := (.bool _)) rfl rfl (pr_pickF rfl hq76 rfl) ?_
                  refine TF.nil (nx_then ?_)
                  refine cw_cond _ rfl rfl (fun hq80 => by
                      have hp80 := dF (nT hq80)
                      exfalso
                      first | omega | exact hp80 rfl | exact hp80 (by decide) | (simp at hp80; done) | (simp at hp80; omega)) ?_
                  intro hq80
                  have hp80 := dT (nF hq80)
                  refine cw_skip (nx_then ?_)
                  refine cw_seq ?_
                  refine cw_seq ?_
                  -- region 17 law.go:161
                  refine cw_region (clf [.U]) [0] rfl (by kernel_rfl) (by decide) ?_
                  refine TF.u (v := (.bool _)) rfl rfl (pr_move rfl) ?_
                  refine TF.nil (nx_then ?_)
                  refine cw_cond _ rfl rfl (fun hq81 => ?_) (fun hq81 => ?_)
                  ·
                    have hp81 := hq81
                    refine cw_seq ?_
                    refine cw_seq ?_
                    -- region 18 law.go:162
                    refine cw_region (clf [.U, .U, .U, .X, .U]) [0, 1, 2, 3, 4] rfl (by kernel_rfl) (by decide) ?_
                    have hdv : (((m - k) : Nat) : Int).tdiv 2 = (((m - k) / 2 : Nat) : Int) := rfl
                    have e4 : tChop ⟨List.replicate (m - k) 0, (m - k), r, ((0 + k) % 18446744073709551616)⟩ (((m - k) / 2 : Nat) : Int) = (⟨List.replicate ((m - k) / 2) 0, min (m - k) ((m - k) / 2), r, ((0 + k) % 18446744073709551616)⟩, 0) := by rw [tChop_yes (by simp; omega)]; simp; omega
                    refine TF.u (v := (.pointer (some ⟨_, 0, none⟩))) rfl rfl (pr_move rfl) ?_
                    refine TF.u (v := (.int .i64 _)) rfl rfl (pr_move rfl) ?_
                    refine TF.u (v := (.int .i64 _)) rfl rfl (pr_quo rfl rfl (by omega) (show _ = (((m - k) / 2 : Nat) : Int) from (IntWalk.i64_in _ (by omega)).trans (by omega))) ?_
                    obtain ⟨F82, hF82, hU82⟩ := H.focus (k := 1) rfl
                    refine TF.call (args := [(.pointer (some ⟨_, 0, none⟩)), (.int .i64 _)]) Try.fn19 rfl rfl (wantF_none rfl) rfl (tchop_ok _ _ _ _ _ hF82 ok30 (by omega) (by omega)) ?_
                    rintro e_ w ⟨rfl, hu82, ok82⟩
                    refine ⟨_, rfl, ?_⟩
                    replace H := hU82 hu82
                    replace H : Sat _ _ _ [_, _] := H
                    refine TF.u (v := (.bool _)) rfl rfl (pr_neq rfl rfl) ?_
                    refine TF.nil (nx_then ?_)
                    refine cw_cond _ rfl rfl (fun hq84 => by
                        have hp84 := dF (nT hq84)
                        exfalso
                        exact hp84 (by rw [e4])) ?_
                    intro hq84
                    have hp84 := dT (nF hq84)
                    refine cw_skip (nx_then ?_)
                    -- region 20 law.go:165
                    refine cw_region (clf [.U, .U, .U]) [0, 1, 2] rfl (by kernel_rfl) (by decide) ?_
                    simp only [e4] at H ok82
                    refine TF.u (v := (.int .i64 _)) rfl rfl (pr_move rfl) ?_
                    refine TF.u (v := (.int .i64 _)) rfl rfl (pr_quo rfl rfl (by omega) (show _ = (((m - k) / 2 : Nat) : Int) from (IntWalk.i64_in _ (by omega)).trans (by omega))) ?_
                    refine TF.u (v := (.int .i64 _)) rfl rfl (pr_assign rfl) ?_
                    refine TF.nil (nx_then ?_)
                    refine cw_seq ?_
                    -- region 21 law.go:167
                    refine cw_region (clf [.U, .U, .U, .U, .U, .X, .X, .U, .U, .U, .U, .U, .U, .X, .X, .U, .U, .U, .U, .X, .U, .U, .U, .U]) [0, 1, 2, 3, 4, 5, 6, 7, 8, 9, 10, 11, 12, 13, 14, 15, 16, 17, 18, 19, 20, 21, 22, 23] rfl (by kernel_rfl) (by decide) ?_
                    have e5 : tAppend ⟨List.replicate ((m - k) / 2) 0, (min (m - k) ((m - k) / 2)), r, ((0 + k) % 18446744073709551616)⟩ (List.replicate (r - ((m - k) / 2) + 1) 0) = (⟨List.replicate ((m - k) / 2) 0, (min (m - k) ((m - k) / 2)), r, ((0 + k) % 18446744073709551616)⟩, 7) := tAppend_no (by simp; omega)
                    have e6 : tAppend ⟨List.replicate ((m - k) / 2) 0, (min (m - k) ((m - k) / 2)), r, ((0 + k) % 18446744073709551616)⟩ (List.replicate (r - ((m - k) / 2)) 0) = (⟨List.replicate ((m - k) / 2) 0 ++ List.replicate (r - ((m - k) / 2)) 0, (min (m - k) ((m - k) / 2)), r, ((0 + k) % 18446744073709551616)⟩, 0) := tAppend_yes (by simp; omega)
                    refine TF.u (v := (.pointer (some ⟨_, 0, none⟩))) rfl rfl (pr_move rfl) ?_
                    refine TF.u (v := (.int .i64 _)) rfl rfl (pr_move rfl) ?_
                    refine TF.u (v := (.int .i64 _)) rfl rfl (pr_move rfl) ?_
                    refine TF.u (v := (.int .i64 _)) rfl rfl (pr_sub rfl rfl (show _ = ((r - ((m - k) / 2) : Nat) : Int) from (IntWalk.i64_in _ (by omega)).trans (by omega))) ?_
                    refine TF.u (v := (.int .i64 _)) rfl rfl (pr_add rfl rfl (show _ = ((r - ((m - k) / 2) + 1 : Nat) : Int) from (IntWalk.i64_in _ (by omega)).trans (by omega))) ?_
                    refine TF.make (nl := r - ((m - k) / 2) + 1) (nc := r - ((m - k) / 2) + 1) (z1 := undef) H rfl (Cx.xx rfl) (wantF_none rfl) Try.underlying25 (Try.ty5) rfl rfl (by omega) (by omega) (by unfold maxLen; omega) ?_
                    clear H
                    intro bk85 w hltbk85 hb86 H
                    rw [made_u8] at H
                    replace H := H.toOwn (q := 0) (sz := 1) (nl := r - ((m - k) / 2) + 1) (nc := r - ((m - k) / 2) + 1) rfl (by simp [u8s_len]) (by omega) (by unfold maxLen; omega)
                    replace H : Sat _ _ _ [_, _, _] := H
                    rw [u8s_take, Nat.mul_one, List.take_of_length_le (by simp)] at H
                    obtain ⟨F87, hF87, hU87⟩ := H.focus (k := 2) rfl
                    refine TF.call (args := [(.pointer (some ⟨_, 0, none⟩)), (.slice _ _ _)]) Try.fn12 rfl rfl (wantF_none rfl) rfl (tappend_ok _ _ _ _ _ _ _ _ hF87 ok82 (H.rd (k := 0) rfl) (by first | omega | (simp only [List.length_append, List.length_cons, List.length_nil]; omega))) ?_
                    rintro e_ w ⟨rfl, hu87, ok87⟩
                    refine ⟨_, rfl, ?_⟩
                    replace H := hU87 hu87
                    replace H : Sat _ _ _ [_, _, _] := H
                    refine TF.u (v := (.bool _)) rfl rfl (pr_eql rfl rfl) ?_
                    refine TF.u (v := (.bool _)) rfl rfl (pr_move rfl) ?_
                    refine TF.split (dj := 99) rfl ?_ (fun hq89 => by
                        have hp89 := dF hq89
                        exfalso
                        exact hp89 (by rw [e5]))
                    intro hq89
                    have hp89 := dT hq89
                    refine TF.ug (v := (.pointer (some ⟨_, 0, none⟩))) rfl rfl (wantF_yes rfl rfl rfl hq89) (pr_move rfl) ?_
                    refine TF.ug (v := (.int .i64 _)) rfl rfl (wantF_yes rfl rfl rfl hq89) (pr_move rfl) ?_
                    refine TF.ug (v := (.int .i64 _)) rfl rfl (wantF_yes rfl rfl rfl hq89) (pr_move rfl) ?_
                    refine TF.ug (v := (.int .i64 _)) rfl rfl (wantF_yes rfl rfl rfl hq89) (pr_sub rfl rfl (show _ = ((r - ((m - k) / 2) : Nat) : Int) from (IntWalk.i64_in _ (by omega)).trans (by omega))) ?_
                    refine TF.make (nl := r - ((m - k) / 2)) (nc := r - ((m - k) / 2)) (z1 := undef) H rfl (Cx.xx rfl) (wantF_yes rfl rfl rfl hq89) Try.underlying25 (Try.ty5) rfl rfl (by omega) (by omega) (by unfold maxLen; omega) ?_
                    clear H
                    intro bk90 w hltbk90 hb91 H
                    rw [made_u8] at H
                    replace H := H.toOwn (q := 0) (sz := 1) (nl := r - ((m - k) / 2)) (nc := r - ((m - k) / 2)) rfl (by simp [u8s_len]) (by omega) (by unfold maxLen; omega)
                    replace H : Sat _ _ _ [_, _, _, _] := H
                    rw [u8s_take, Nat.mul_one, List.take_of_length_le (by simp)] at H
                    obtain ⟨F92, hF92, hU92⟩ := H.focus (k := 3) rfl
                    refine TF.call (args := [(.pointer (some ⟨_, 0, none⟩)), (.slice _ _ _)]) Try.fn12 rfl rfl (wantF_yes rfl rfl rfl hq89) rfl (tappend_ok _ _ _ _ _ _ _ _ hF92 ok87 (H.rd (k := 0) rfl) (by first | omega | (simp only [List.length_append, List.length_cons, List.length_nil]; omega))) ?_
                    rintro e_ w ⟨rfl, hu92, ok92⟩
                    refine ⟨_, rfl, ?_⟩
                    replace H := hU92 hu92
                    replace H : Sat _ _ _ [_, _, _, _] := H
                    refine TF.ug (v := (.bool _)) rfl rfl (wantF_yes rfl rfl rfl hq89) (pr_eql rfl rfl) ?_
                    refine TF.u (v := (.bool _)) rfl rfl (pr_pickT rfl hq89 rfl) ?_
                    refine TF.u (v := (.bool _)) rfl rfl (pr_move rfl) ?_
                    refine TF.split (dj := 108) rfl ?_ (fun hq94 => by
                        have hp94 := dF hq94
                        exfalso
                        exact hp94 (by rw [e5]; rw [e6]))
                    intro hq94
                    have hp94 := dT hq94
                    refine TF.ug (v := (.pointer (some ⟨_, 0, none⟩))) rfl rfl (wantF_yes rfl rfl rfl hq94) (pr_move rfl) ?_
                    obtain ⟨F96, hF96, hU96⟩ := H.focus (k := 3) rfl
                    refine TF.call (args := [(.pointer (some ⟨_, 0, none⟩))]) Try.fn17 rfl rfl (wantF_yes rfl rfl rfl hq94) rfl (tlen_ok _ _ _ _ hF96 ok92) ?_
                    rintro e_ w ⟨rfl, hb95⟩
                    refine ⟨_, rfl, ?_⟩
                    replace H := H.below hb95
                    refine TF.ug (v := (.int .i64 _)) rfl rfl (wantF_yes rfl rfl rfl hq94) (pr_move rfl) ?_
                    refine TF.ug (v := (.bool _)) rfl rfl (wantF_yes rfl rfl rfl hq94) (pr_eql rfl rfl) ?_
                    refine TF.u (v := (.bool _)) rfl rfl (pr_pickT rfl hq94 rfl) ?_
                    refine TF.u (v := (.bool _)) rfl rfl (pr_assign rfl) ?_
                    refine TF.nil (nx_then ?_)
                    refine cw_ret (fin1 (v := (.bool _)) Try.results6 rfl rfl ?_)
                    exact ⟨by rw [e5]; rw [e6]; simp; omega, H.base⟩
                  ·
                    have hp81 := hq81
                    refine cw_skip (nx_then ?_)
                    refine cw_seq ?_
                    -- region 21 law.go:167
                    refine cw_region (clf [.U, .U, .U, .U, .U, .X, .X, .U, .U, .U, .U, .U, .U, .X, .X, .U, .U, .U, .U, .X, .U, .U, .U, .U]) [0, 1, 2, 3, 4, 5, 6, 7, 8, 9, 10, 11, 12, 13, 14, 15, 16, 17, 18, 19, 20, 21, 22, 23] rfl (by kernel_rfl) (by decide) ?_
                    have e5 : tAppend ⟨List.replicate (m - k) 0, (m - k), r, ((0 + k) % 18446744073709551616)⟩ (List.replicate (r - (m - k) + 1) 0) = (⟨List.replicate (m - k) 0, (m - k), r, ((0 + k) % 18446744073709551616)⟩, 7) := tAppend_no (by simp; omega)
                    have e6 : tAppend ⟨List.replicate (m - k) 0, (m - k), r, ((0 + k) % 18446744073709551616)⟩ (List.replicate (r - (m - k)) 0) = (⟨List.replicate (m - k) 0 ++ List.replicate (r - (m - k)) 0, (m - k), r, ((0 + k) % 18446744073709551616)⟩, 0) := tAppend_yes (by simp; omega)
                    refine TF.u (v := (.pointer (some ⟨_, 0, none⟩))) rfl rfl (pr_move rfl) ?_
                    refine TF.u (v := (.int .i64 _)) rfl rfl (pr_move rfl) ?_
                    refine TF.u (v := (.int .i64 _)) rfl rfl (pr_move rfl) ?_
                    refine TF.u (v := (.int .i64 _)) rfl rfl (pr_sub rfl rfl (show _ = ((r - (m - k) : Nat) : Int) from (IntWalk.i64_in _ (by omega)).trans (by omega))) ?_
                    refine TF.u (v := (.int .i64 _)) rfl rfl (pr_add rfl rfl (show _ = ((r - (m - k) + 1 : Nat) : Int) from (IntWalk.i64_in _ (by omega)).trans (by omega))) ?_
                    refine TF.make (nl := r - (m - k) + 1) (nc := r - (m - k) + 1) (z1 := undef) H rfl (Cx.xx rfl) (wantF_none rfl) Try.underlying25 (Try.ty5) rfl rfl (by omega) (by omega) (by unfold maxLen; omega) ?_
                    clear H
                    intro bk98 w hltbk98 hb99 H
                    rw [made_u8] at H
                    replace H := H.toOwn (q := 0) (sz := 1) (nl := r - (m - k) + 1) (nc := r - (m - k) + 1) rfl (by simp [u8s_len]) (by omega) (by unfold maxLen; omega)
                    replace H : Sat _ _ _ [_, _, _] := H
                    rw [u8s_take, Nat.mul_one, List.take_of_length_le (by simp)] at H
                    obtain ⟨F100, hF100, hU100⟩ := H.focus (k := 2) rfl
                    refine TF.call (args := [(.pointer (some ⟨_, 0, none⟩)), (.slice _ _ _)]) Try.fn12 rfl rfl (wantF_none rfl) rfl (tappend_ok _ _ _ _ _ _ _ _ hF100 ok30 (H.rd (k := 0) rfl) (by first | omega | (simp only [List.length_append, List.length_cons, List.length_nil]; omega))) ?_
                    rintro e_ w ⟨rfl, hu100, ok100⟩
                    refine ⟨_, rfl, ?_⟩
                    replace H := hU100 hu100
                    replace H : Sat _ _ _ [_, _, _] := H
                    refine TF.u (v := (.bool _)) rfl rfl (pr_eql rfl rfl) ?_
                    refine TF.u (v := (.bool _)) rfl rfl (pr_move rfl) ?_
                    refine TF.split (dj := 99) rfl ?_ (fun hq102 => by
                        have hp102 := dF hq102
                        exfalso
                        exact hp102 (by rw [e5]))
                    intro hq102
                    have hp102 := dT hq102
                    refine TF.ug (v := (.pointer (some ⟨_, 0, none⟩))) rfl rfl (wantF_yes rfl rfl rfl hq102) (pr_move rfl) ?_
                    refine TF.ug (v := (.int .i64 _)) rfl rfl (wantF_yes rfl rfl rfl hq102) (pr_move rfl) ?_
                    refine TF.ug (v := (.int .i64 _)) rfl rfl (wantF_yes rfl rfl rfl hq102) (pr_move rfl) ?_
                    refine TF.ug (v := (.int .i64 _)) rfl rfl (wantF_yes rfl rfl rfl hq102) (pr_sub rfl rfl (show _ = ((r - (m - k) : Nat) : Int) from (IntWalk.i64_in _ (by omega)).trans (by omega))) ?_
                    refine TF.make (nl := r - (m - k)) (nc := r - (m - k)) (z1 := undef) H rfl (Cx.xx rfl) (wantF_yes rfl rfl rfl hq102) Try.underlying25 (Try.ty5) rfl rfl (by omega) (by omega) (by unfold maxLen; omega) ?_
                    clear H
                    intro bk103 w hltbk103 hb104 H
                    rw [made_u8] at H
                    replace H := H.toOwn (q := 0) (sz := 1) (nl := r - (m - k)) (nc := r - (m - k)) rfl (by simp [u8s_len]) (by omega) (by unfold maxLen; omega)
                    replace H : Sat _ _ _ [_, _, _, _] := H
                    rw [u8s_take, Nat.mul_one, List.take_of_length_le (by simp)] at H
                    obtain ⟨F105, hF105, hU105⟩ := H.focus (k := 3) rfl
                    refine TF.call (args := [(.pointer (some ⟨_, 0, none⟩)), (.slice _ _ _)]) Try.fn12 rfl rfl (wantF_yes rfl rfl rfl hq102) rfl (tappend_ok _ _ _ _ _ _ _ _ hF105 ok100 (H.rd (k := 0) rfl) (by first | omega | (simp only [List.length_append, List.length_cons, List.length_nil]; omega))) ?_
                    rintro e_ w ⟨rfl, hu105, ok105⟩
                    refine ⟨_, rfl, ?_⟩
                    replace H := hU105 hu105
                    replace H : Sat _ _ _ [_, _, _, _] := H
                    refine TF.ug (v := (.bool _)) rfl rfl (wantF_yes rfl rfl rfl hq102) (pr_eql rfl rfl) ?_
                    refine TF.u (v := (.bool _)) rfl rfl (pr_pickT rfl hq102 rfl) ?_
                    refine TF.u (v := (.bool _)) rfl rfl (pr_move rfl) ?_
                    refine TF.split (dj := 108) rfl ?_ (fun hq107 => by
                        have hp107 := dF hq107
                        exfalso
                        exact hp107 (by rw [e5]; rw [e6]))
                    intro hq107
                    have hp107 := dT hq107
                    refine TF.ug (v := (.pointer (some ⟨_, 0, none⟩))) rfl rfl (wantF_yes rfl rfl rfl hq107) (pr_move rfl) ?_
                    obtain ⟨F109, hF109, hU109⟩ := H.focus (k := 3) rfl
                    refine TF.call (args := [(.pointer (some ⟨_, 0, none⟩))]) Try.fn17 rfl rfl (wantF_yes rfl rfl rfl hq107) rfl (tlen_ok _ _ _ _ hF109 ok105) ?_
                    rintro e_ w ⟨rfl, hb108⟩
                    refine ⟨_, rfl, ?_⟩
                    replace H := H.below hb108
                    refine TF.ug (v := (.int .i64 _)) rfl rfl (wantF_yes rfl rfl rfl hq107) (pr_move rfl) ?_
                    refine TF.ug (v := (.bool _)) rfl rfl (wantF_yes rfl rfl rfl hq107) (pr_eql rfl rfl) ?_
                    refine TF.u (v := (.bool _)) rfl rfl (pr_pickT rfl hq107 rfl) ?_
                    refine TF.u (v := (.bool _)) rfl rfl (pr_assign rfl) ?_
                    refine TF.nil (nx_then ?_)
                    refine cw_ret (fin1 (v := (.bool _)) Try.results6 rfl rfl ?_)
                    exact ⟨by rw [e5]; rw [e6]; simp; omega, H.base⟩
              ·
                have hp34 := dF hq34
                refine cw_skip (nx_then ?_)
                refine cw_seq ?_
                refine cw_seq ?_
                -- region 15 law.go:158
                refine cw_region (clf [.U, .U, .U, .U, .U, .U, .U, .U, .U, .U, .U, .U, .X, .U, .U, .U]) [0, 1, 2, 3, 4, 5, 6, 7, 8, 9, 10, 11, 12, 13, 14, 15] rfl (by kernel_rfl) (by decide) ?_
                have e3 : tCut ⟨List.replicate m 0, m, r, 0⟩ cut = (⟨List.replicate m 0, m, r, 0⟩, 1) := tCut_no (by simp only; omega)
                rw [e3] at H ok30 ⊢
                refine TF.u (v := (.int .i64 _)) rfl rfl (pr_move rfl) ?_
                refine TF.u (v := (.bool _)) rfl rfl (pr_eql rfl rfl) ?_
                refine TF.u (v := (.int .i64 _)) rfl rfl (pr_move rfl) ?_
                refine TF.u (v := (.bool _)) rfl rfl (pr_geq rfl rfl) ?_
                refine TF.u (v := (.bool _)) rfl rfl (pr_move rfl) ?_
                refine TF.split (dj := 71) rfl (fun hq113 => ?_) (fun hq113 => ?_)
                ·
                  have hp113 := dT hq113
                  refine TF.ug (v := (.int .i64 _)) rfl rfl (wantF_yes rfl rfl rfl hq113) (pr_move rfl) ?_
                  refine TF.ug (v := (.int .i64 _)) rfl rfl (wantF_yes rfl rfl rfl hq113) (pr_move rfl) ?_
                  refine TF.ug (v := (.bool _)) rfl rfl (wantF_yes rfl rfl rfl hq113) (pr_leq rfl rfl) ?_
                  refine TF.u (v := (.bool _)) rfl rfl (pr_pickT rfl hq113 rfl) ?_
                  refine TF.u (v := (.bool _)) rfl rfl (pr_bneq Try.underlying4 rfl rfl) ?_
                  refine TF.u (v := (.bool _)) rfl rfl (pr_move rfl) ?_
                  refine TF.split (dj := 77) rfl (fun hq116 => by
                      have hp116 := hq116
                      exfalso
                      first | omega | exact hp116 rfl | exact hp116 (by decide) | (simp at hp116; done) | (simp at hp116; omega)) ?_
                  intro hq116
                  have hp116 := hq116
                  refine TF.ug (v := (.pointer (some ⟨_, 0, none⟩))) rfl rfl (wantF_yes rfl rfl rfl hq116) (pr_move rfl) ?_
                  obtain ⟨F118, hF118, hU118⟩ := H.focus (k := 1) rfl
                  refine TF.call (args := [(.pointer (some ⟨_, 0, none⟩))]) Try.fn17 rfl rfl (wantF_yes rfl rfl rfl hq116) rfl (tlen_ok _ _ _ _ hF118 ok30) ?_
                  rintro e_ w ⟨rfl, hb117⟩
                  refine ⟨_, rfl, ?_⟩
                  replace H := H.below hb117
                  refine TF.ug (v := (.int .i64 _)) rfl rfl (wantF_yes rfl rfl rfl hq116) (pr_move rfl) ?_
                  refine TF.ug (v := (.bool _)) rfl rfl (wantF_yes rfl rfl rfl hq116) (pr_neq rfl rfl) ?_
                  refine TF.u (v := (.bool _)) rfl rfl (pr_pickF rfl hq116 rfl) ?_
                  refine TF.nil (nx_then ?_)
                  refine cw_cond _ rfl rfl (fun hq120 => by
                      have hp120 := dF (nT hq120)
                      exfalso
                      first | omega | exact hp120 rfl | exact hp120 (by decide) | (simp at hp120; done) | (simp at hp120; omega)) ?_
                  intro hq120
                  have hp120 := dT (nF hq120)
                  refine cw_skip (nx_then ?_)
                  refine cw_seq ?_
                  refine cw_seq ?_
                  -- region 17 law.go:161
                  refine cw_region (clf [.U]) [0] rfl (by kernel_rfl) (by decide) ?_
                  refine TF.u (v := (.bool _)) rfl rfl (pr_move rfl) ?_
                  refine TF.nil (nx_then ?_)
                  refine cw_cond _ rfl rfl (fun hq121 => ?_) (fun hq121 => ?_)
                  ·
                    have hp121 := hq121
                    refine cw_seq ?_
                    refine cw_seq ?_
                    -- region 18 law.go:162
                    refine cw_region (clf [.U, .U, .U, .X, .U]) [0, 1, 2, 3, 4] rfl (by kernel_rfl) (by decide) ?_
                    have hdv : ((m : Nat) : Int).tdiv 2 = ((m / 2 : Nat) : Int) := rfl
                    have e4 : tChop ⟨List.replicate m 0, m, r, 0⟩ ((m / 2 : Nat) : Int) = (⟨List.replicate (m / 2) 0, min m (m / 2), r, 0⟩, 0) := by rw [tChop_yes (by simp; omega)]; simp; omega
                    refine TF.u (v := (.pointer (some ⟨_, 0, none⟩))) rfl rfl (pr_move rfl) ?_
                    refine TF.u (v := (.int .i64 _)) rfl rfl (pr_move rfl) ?_
                    refine TF.u (v := (.int .i64 _)) rfl rfl (pr_quo rfl rfl (by omega) (show _ = ((m / 2 : Nat) : Int) from (IntWalk.i64_in _ (by omega)).trans (by omega))) ?_
                    obtain ⟨F122, hF122, hU122⟩ := H.focus (k := 1) rfl
                    refine TF.call (args := [(.pointer (some ⟨_, 0, none⟩)), (.int .i64 _)]) Try.fn19 rfl rfl (wantF_none rfl) rfl (tchop_ok _ _ _ _ _ hF122 ok30 (by omega) (by omega)) ?_
                    rintro e_ w ⟨rfl, hu122, ok122⟩
                    refine ⟨_, rfl, ?_⟩
                    replace H := hU122 hu122
                    replace H : Sat _ _ _ [_, _] := H
                    refine TF.u (v := (.bool _)) rfl rfl (pr_neq rfl rfl) ?_
                    refine TF.nil (nx_then ?_)
                    refine cw_cond _ rfl rfl (fun hq124 => by
                        have hp124 := dF (nT hq124)
                        exfalso
                        exact hp124 (by rw [e4])) ?_
                    intro hq124
                    have hp124 := dT (nF hq124)
                    refine cw_skip (nx_then ?_)
                    -- region 20 law.go:165
                    refine cw_region (clf [.U, .U, .U]) [0, 1, 2] rfl (by kernel_rfl) (by decide) ?_
                    simp only [e4] at H ok122
                    refine TF.u (v := (.int .i64 _)) rfl rfl (pr_move rfl) ?_
                    refine TF.u (v := (.int .i64 _)) rfl rfl (pr_quo rfl rfl (by omega) (show _ = ((m / 2 : Nat) : Int) from (IntWalk.i64_in _ (by omega)).trans (by omega))) ?_
                    refine TF.u (v := (.int .i64 _)) rfl rfl (pr_assign rfl) ?_
                    refine TF.nil (nx_then ?_)
                    refine cw_seq ?_
                    -- region 21 law.go:167
                    refine cw_region (clf [.U, .U, .U, .U, .U, .X, .X, .U, .U, .U, .U, .U, .U, .X, .X, .U, .U, .U, .U, .X, .U, .U, .U, .U]) [0, 1, 2, 3, 4, 5, 6, 7, 8, 9, 10, 11, 12, 13, 14, 15, 16, 17, 18, 19, 20, 21, 22, 23] rfl (by kernel_rfl) (by decide) ?_
                    have e5 : tAppend ⟨List.replicate (m / 2) 0, (min m (m / 2)), r, 0⟩ (List.replicate (r - (m / 2) + 1) 0) = (⟨List.replicate (m / 2) 0, (min m (m / 2)), r, 0⟩, 7) := tAppend_no (by simp; omega)
                    have e6 : tAppend ⟨List.replicate (m / 2) 0, (min m (m / 2)), r, 0⟩ (List.replicate (r - (m / 2)) 0) = (⟨List.replicate (m / 2) 0 ++ List.replicate (r - (m / 2)) 0, (min m (m / 2)), r, 0⟩, 0) := tAppend_yes (by simp; omega)
                    refine TF.u (v := (.pointer (some ⟨_, 0, none⟩))) rfl rfl (pr_move rfl) ?_
                    refine TF.u (v := (.int .i64 _)) rfl rfl (pr_move rfl) ?_
                    refine TF.u (v := (.int .i64 _)) rfl rfl (pr_move rfl) ?_
                    refine TF.u (v := (.int .i64 _)) rfl rfl (pr_sub rfl rfl (show _ = ((r - (m / 2) : Nat) : Int) from (IntWalk.i64_in _ (by omega)).trans (by omega))) ?_
                    refine TF.u (v := (.int .i64 _)) rfl rfl (pr_add rfl rfl (show _ = ((r - (m / 2) + 1 : Nat) : Int) from (IntWalk.i64_in _ (by omega)).trans (by omega))) ?_
                    refine TF.make (nl := r - (m / 2) + 1) (nc := r - (m / 2) + 1) (z1 := undef) H rfl (Cx.xx rfl) (wantF_none rfl) Try.underlying25 (Try.ty5) rfl rfl (by omega) (by omega) (by unfold maxLen; omega) ?_
                    clear H
                    intro bk125 w hltbk125 hb126 H
                    rw [made_u8] at H
                    replace H := H.toOwn (q := 0) (sz := 1) (nl := r - (m / 2) + 1) (nc := r - (m / 2) + 1) rfl (by simp [u8s_len]) (by omega) (by unfold maxLen; omega)
                    replace H : Sat _ _ _ [_, _, _] := H
                    rw [u8s_take, Nat.mul_one, List.take_of_length_le (by simp)] at H
                    obtain ⟨F127, hF127, hU127⟩ := H.focus (k := 2) rfl
                    refine TF.call (args := [(.pointer (some ⟨_, 0, none⟩)), (.slice _ _ _)]) Try.fn12 rfl rfl (wantF_none rfl) rfl (tappend_ok _ _ _ _ _ _ _ _ hF127 ok122 (H.rd (k := 0) rfl) (by first | omega | (simp only [List.length_append, List.length_cons, List.length_nil]; omega))) ?_
                    rintro e_ w ⟨rfl, hu127, ok127⟩
                    refine ⟨_, rfl, ?_⟩
                    replace H := hU127 hu127
                    replace H : Sat _ _ _ [_, _, _] := H
                    refine TF.u (v := (.bool _)) rfl rfl (pr_eql rfl rfl) ?_
                    refine TF.u (v := (.bool _)) rfl rfl (pr_move rfl) ?_
                    refine TF.split (dj := 99) rfl ?_ (fun hq129 => by
                        have hp129 := dF hq129
                        exfalso
                        exact hp129 (by rw [e5]))
                    intro hq129
                    have hp129 := dT hq129
                    refine TF.ug (v := (.pointer (some ⟨_, 0, none⟩))) rfl rfl (wantF_yes rfl rfl rfl hq129) (pr_move rfl) ?_
                    refine TF.ug (v := (.int .i64 _)) rfl rfl (wantF_yes rfl rfl rfl hq129) (pr_move rfl) ?_
                    refine TF.ug (v := (.int .i64 _)) rfl rfl (wantF_yes rfl rfl rfl hq129) (pr_move rfl) ?_
                    refine TF.ug (v := (.int .i64 _)) rfl rfl (wantF_yes rfl rfl rfl hq129) (pr_sub rfl rfl (show _ = ((r - (m / 2) : Nat) : Int) from (IntWalk.i64_in _ (by omega)).trans (by omega))) ?_
                    refine TF.make (nl := r - (m / 2)) (nc := r - (m / 2)) (z1 := undef) H rfl (Cx.xx rfl) (wantF_yes rfl rfl rfl hq129) Try.underlying25 (Try.ty5) rfl rfl (by omega) (by omega) (by unfold maxLen; omega) ?_
                    clear H
                    intro bk130 w hltbk130 hb131 H
                    rw [made_u8] at H
                    replace H := H.toOwn (q := 0) (sz := 1) (nl := r - (m / 2)) (nc := r - (m / 2)) rfl (by simp [u8s_len]) (by omega) (by unfold maxLen; omega)
                    replace H : Sat _ _ _ [_, _, _, _] := H
                    rw [u8s_take, Nat.mul_one, List.take_of_length_le (by simp)] at H
                    obtain ⟨F132, hF132, hU132⟩ := H.focus (k := 3) rfl
                    refine TF.call (args := [(.pointer (some ⟨_, 0, none⟩)), (.slice _ _ _)]) Try.fn12 rfl rfl (wantF_yes rfl rfl rfl hq129) rfl (tappend_ok _ _ _ _ _ _ _ _ hF132 ok127 (H.rd (k := 0) rfl) (by first | omega | (simp only [List.length_append, List.length_cons, List.length_nil]; omega))) ?_
                    rintro e_ w ⟨rfl, hu132, ok132⟩
                    refine ⟨_, rfl, ?_⟩
                    replace H := hU132 hu132
                    replace H : Sat _ _ _ [_, _, _, _] := H
                    refine TF.ug (v := (.bool _)) rfl rfl (wantF_yes rfl rfl rfl hq129) (pr_eql rfl rfl) ?_
                    refine TF.u (v := (.bool _)) rfl rfl (pr_pickT rfl hq129 rfl) ?_
                    refine TF.u (v := (.bool _)) rfl rfl (pr_move rfl) ?_
                    refine TF.split (dj := 108) rfl ?_ (fun hq134 => by
                        have hp134 := dF hq134
                        exfalso
                        exact hp134 (by rw [e5]; rw [e6]))
                    intro hq134
                    have hp134 := dT hq134
                    refine TF.ug (v := (.pointer (some ⟨_, 0, none⟩))) rfl rfl (wantF_yes rfl rfl rfl hq134) (pr_move rfl) ?_
                    obtain ⟨F136, hF136, hU136⟩ := H.focus (k := 3) rfl
                    refine TF.call (args := [(.pointer (some ⟨_, 0, none⟩))]) Try.fn17 rfl rfl (wantF_yes rfl rfl rfl hq134) rfl (tlen_ok _ _ _ _ hF136 ok132) ?_
                    rintro e_ w ⟨rfl, hb135⟩
                    refine ⟨_, rfl, ?_⟩
                    replace H := H.below hb135
                    refine TF.ug (v := (.int .i64 _)) rfl rfl (wantF_yes rfl rfl rfl hq134) (pr_move rfl) ?_
                    refine TF.ug (v := (.bool _)) rfl rfl (wantF_yes rfl rfl rfl hq134) (pr_eql rfl rfl) ?_
                    refine TF.u (v := (.bool _)) rfl rfl (pr_pickT rfl hq134 rfl) ?_
                    refine TF.u (v := (.bool _)) rfl rfl (pr_assign rfl) ?_
                    refine TF.nil (nx_then ?_)
                    refine cw_ret (fin1 (v := (.bool _)) Try.results6 rfl rfl ?_)
                    exact ⟨by rw [e5]; rw [e6]; simp; omega, H.base⟩
                  ·
                    have hp121 := hq121
                    refine cw_skip (nx_then ?_)
                    refine cw_seq ?_
                    -- region 21 law.go:167
                    refine cw_region (clf [.U, .U, .U, .U, .U, .X, .X, .U, .U, .U, .U, .U, .U, .X, .X, .U, .U, .U, .U, .X, .U, .U, .U, .U]) [0, 1, 2, 3, 4, 5, 6, 7, 8, 9, 10, 11, 12, 13, 14, 15, 16, 17, 18, 19, 20, 21, 22, 23] rfl (by kernel_rfl) (by decide) ?_
                    have e5 : tAppend ⟨List.replicate m 0, m, r, 0⟩ (List.replicate (r - m + 1) 0) = (⟨List.replicate m 0, m, r, 0⟩, 7) := tAppend_no (by simp; omega)
                    have e6 : tAppend ⟨List.replicate m 0, m, r, 0⟩ (List.replicate (r - m) 0) = (⟨List.replicate m 0 ++ List.replicate (r - m) 0, m, r, 0⟩, 0) := tAppend_yes (by simp; omega)
                    refine TF.u (v := (.pointer (some ⟨_, 0, none⟩))) rfl rfl (pr_move rfl) ?_
                    refine TF.u (v := (.int .i64 _)) rfl rfl (pr_move rfl) ?_
                    refine TF.u (v := (.int .i64 _)) rfl rfl (pr_move rfl) ?_
                    refine TF.u (v := (.int .i64 _)) rfl rfl (pr_sub rfl rfl (show _ = ((r - m : Nat) : Int) from (IntWalk.i64_in _ (by omega)).trans (by omega))) ?_
                    refine TF.u (v := (.int .i64 _)) rfl rfl (pr_add rfl rfl (show _ = ((r - m + 1 : Nat) : Int) from (IntWalk.i64_in _ (by omega)).trans (by omega))) ?_
                    refine TF.make (nl := r - m + 1) (nc := r - m + 1) (z1 := undef) H rfl (Cx.xx rfl) (wantF_none rfl) Try.underlying25 (Try.ty5) rfl rfl (by omega) (by omega) (by unfold maxLen; omega) ?_
                    clear H
                    intro bk138 w hltbk138 hb139 H
                    rw [made_u8] at H
                    replace H := H.toOwn (q := 0) (sz := 1) (nl := r - m + 1) (nc := r - m + 1) rfl (by simp [u8s_len]) (by omega) (by unfold maxLen; omega)
                    replace H : Sat _ _ _ [_, _, _] := H
                    rw [u8s_take, Nat.mul_one, List.take_of_length_le (by simp)] at H
                    obtain ⟨F140, hF140, hU140⟩ := H.focus (k := 2) rfl
                    refine TF.call (args := [(.pointer (some ⟨_, 0, none⟩)), (.slice _ _ _)]) Try.fn12 rfl rfl (wantF_none rfl) rfl (tappend_ok _ _ _ _ _ _ _ _ hF140 ok30 (H.rd (k := 0) rfl) (by first | omega | (simp only [List.length_append, List.length_cons, List.length_nil]; omega))) ?_
                    rintro e_ w ⟨rfl, hu140, ok140⟩
                    refine ⟨_, rfl, ?_⟩
                    replace H := hU140 hu140
                    replace H : Sat _ _ _ [_, _, _] := H
                    refine TF.u (v := (.bool _)) rfl rfl (pr_eql rfl rfl) ?_
                    refine TF.u (v := (.bool _)) rfl rfl (pr_move rfl) ?_
                    refine TF.split (dj := 99) rfl ?_ (fun hq142 => by
                        have hp142 := dF hq142
                        exfalso
                        exact hp142 (by rw [e5]))
                    intro hq142
                    have hp142 := dT hq142
                    refine TF.ug (v := (.pointer (some ⟨_, 0, none⟩))) rfl rfl (wantF_yes rfl rfl rfl hq142) (pr_move rfl) ?_
                    refine TF.ug (v := (.int .i64 _)) rfl rfl (wantF_yes rfl rfl rfl hq142) (pr_move rfl) ?_
                    refine TF.ug (v := (.int .i64 _)) rfl rfl (wantF_yes rfl rfl rfl hq142) (pr_move rfl) ?_
                    refine TF.ug (v := (.int .i64 _)) rfl rfl (wantF_yes rfl rfl rfl hq142) (pr_sub rfl rfl (show _ = ((r - m : Nat) : Int) from (IntWalk.i64_in _ (by omega)).trans (by omega))) ?_
                    refine TF.make (nl := r - m) (nc := r - m) (z1 := undef) H rfl (Cx.xx rfl) (wantF_yes rfl rfl rfl hq142) Try.underlying25 (Try.ty5) rfl rfl (by omega) (by omega) (by unfold maxLen; omega) ?_
                    clear H
                    intro bk143 w hltbk143 hb144 H
                    rw [made_u8] at H
                    replace H := H.toOwn (q := 0) (sz := 1) (nl := r - m) (nc := r - m) rfl (by simp [u8s_len]) (by omega) (by unfold maxLen; omega)
                    replace H : Sat _ _ _ [_, _, _, _] := H
                    rw [u8s_take, Nat.mul_one, List.take_of_length_le (by simp)] at H
                    obtain ⟨F145, hF145, hU145⟩ := H.focus (k := 3) rfl
                    refine TF.call (args := [(.pointer (some ⟨_, 0, none⟩)), (.slice _ _ _)]) Try.fn12 rfl rfl (wantF_yes rfl rfl rfl hq142) rfl (tappend_ok _ _ _ _ _ _ _ _ hF145 ok140 (H.rd (k := 0) rfl) (by first | omega | (simp only [List.length_append, List.length_cons, List.length_nil]; omega))) ?_
                    rintro e_ w ⟨rfl, hu145, ok145⟩
                    refine ⟨_, rfl, ?_⟩
                    replace H := hU145 hu145
                    replace H : Sat _ _ _ [_, _, _, _] := H
                    refine TF.ug (v := (.bool _)) rfl rfl (wantF_yes rfl rfl rfl hq142) (pr_eql rfl rfl) ?_
                    refine TF.u (v := (.bool _)) rfl rfl (pr_pickT rfl hq142 rfl) ?_
                    refine TF.u (v := (.bool _)) rfl rfl (pr_move rfl) ?_
                    refine TF.split (dj := 108) rfl ?_ (fun hq147 => by
                        have hp147 := dF hq147
                        exfalso
                        exact hp147 (by rw [e5]; rw [e6]))
                    intro hq147
                    have hp147 := dT hq147
                    refine TF.ug (v := (.pointer (some ⟨_, 0, none⟩))) rfl rfl (wantF_yes rfl rfl rfl hq147) (pr_move rfl) ?_
                    obtain ⟨F149, hF149, hU149⟩ := H.focus (k := 3) rfl
                    refine TF.call (args := [(.pointer (some ⟨_, 0, none⟩))]) Try.fn17 rfl rfl (wantF_yes rfl rfl rfl hq147) rfl (tlen_ok _ _ _ _ hF149 ok145) ?_
                    rintro e_ w ⟨rfl, hb148⟩
                    refine ⟨_, rfl, ?_⟩
                    replace H := H.below hb148
                    refine TF.ug (v := (.int .i64 _)) rfl rfl (wantF_yes rfl rfl rfl hq147) (pr_move rfl) ?_
                    refine TF.ug (v := (.bool _)) rfl rfl (wantF_yes rfl rfl rfl hq147) (pr_eql rfl rfl) ?_
                    refine TF.u (v := (.bool _)) rfl rfl (pr_pickT rfl hq147 rfl) ?_
                    refine TF.u (v := (.bool _)) rfl rfl (pr_assign rfl) ?_
                    refine TF.nil (nx_then ?_)
                    refine cw_ret (fin1 (v := (.bool _)) Try.results6 rfl rfl ?_)
                    exact ⟨by rw [e5]; rw [e6]; simp; omega, H.base⟩
                ·
                  have hp113 := dF hq113
                  refine TF.skip rfl (wantF_no rfl rfl rfl hq113) ?_
                  refine TF.skip rfl (wantF_no rfl rfl rfl hq113) ?_
                  refine TF.skip rfl (wantF_no rfl rfl rfl hq113) ?_
                  refine TF.u (v := (.bool _)) rfl rfl (pr_pickF rfl hq113 rfl) ?_
                  refine TF.u (v := (.bool _)) rfl rfl (pr_bneq Try.underlying4 rfl rfl) ?_
                  refine TF.u (v := (.bool _)) rfl rfl (pr_move rfl) ?_
                  refine TF.split (dj := 77) rfl (fun hq152 => by
                      have hp152 := hq152
                      exfalso
                      first | omega | exact hp152 rfl | exact hp152 (by decide) | (simp at hp152; done) | (simp at hp152; omega)) ?_
                  intro hq152
                  have hp152 := hq152
                  refine TF.ug (v := (.pointer (some ⟨_, 0, none⟩))) rfl rfl (wantF_yes rfl rfl rfl hq152) (pr_move rfl) ?_
                  obtain ⟨F154, hF154, hU154⟩ := H.focus (k := 1) rfl
                  refine TF.call (args := [(.pointer (some ⟨_, 0, none⟩))]) Try.fn17 rfl rfl (wantF_yes rfl rfl rfl hq152) rfl (tlen_ok _ _ _ _ hF154 ok30) ?_
                  rintro e_ w ⟨rfl, hb153⟩
                  refine ⟨_, rfl, ?_⟩
                  replace H := H.below hb153
                  refine TF.ug (v := (.int .i64 _)) rfl rfl (wantF_yes rfl rfl rfl hq152) (pr_move rfl) ?_
                  refine TF.ug (v := (.bool _)) rfl rfl (wantF_yes rfl rfl rfl hq152) (pr_neq rfl rfl) ?_
                  refine TF.u (v := (.bool _)) rfl rfl (pr_pickF rfl hq152 rfl) ?_
                  refine TF.nil (nx_then ?_)
                  refine cw_cond _ rfl rfl (fun hq156 => by
                      have hp156 := dF (nT hq156)
                      exfalso
                      first | omega | exact hp156 rfl | exact hp156 (by decide) | (simp at hp156; done) | (simp at hp156; omega)) ?_
                  intro hq156
                  have hp156 := dT (nF hq156)
                  refine cw_skip (nx_then ?_)
                  refine cw_seq ?_
                  refine cw_seq ?_
                  -- region 17 law.go:161
                  refine cw_region (clf [.U]) [0] rfl (by kernel_rfl) (by decide) ?_
                  refine TF.u (v := (.bool _)) rfl rfl (pr_move rfl) ?_
                  refine TF.nil (nx_then ?_)
                  refine cw_cond _ rfl rfl (fun hq157 => ?_) (fun hq157 => ?_)
                  ·
                    have hp157 := hq157
                    refine cw_seq ?_
                    refine cw_seq ?_
                    -- region 18 law.go:162
                    refine cw_region (clf [.U, .U, .U, .X, .U]) [0, 1, 2, 3, 4] rfl (by kernel_rfl) (by decide) ?_
                    have hdv : ((m : Nat) : Int).tdiv 2 = ((m / 2 : Nat) : Int) := rfl
                    have e4 : tChop ⟨List.replicate m 0, m, r, 0⟩ ((m / 2 : Nat) : Int) = (⟨List.replicate (m / 2) 0, min m (m / 2), r, 0⟩, 0) := by rw [tChop_yes (by simp; omega)]; simp; omega
                    refine TF.u (v := (.pointer (some ⟨_, 0, none⟩))) rfl rfl (pr_move rfl) ?_
                    refine TF.u (v := (.int .i64 _)) rfl rfl (pr_move rfl) ?_
                    refine TF.u (v := (.int .i64 _)) rfl rfl (pr_quo rfl rfl (by omega) (show _ = ((m / 2 : Nat) : Int) from (IntWalk.i64_in _ (by omega)).trans (by omega))) ?_
                    obtain ⟨F158, hF158, hU158⟩ := H.focus (k := 1) rfl
                    refine TF.call (args := [(.pointer (some ⟨_, 0, none⟩)), (.int .i64 _)]) Try.fn19 rfl rfl (wantF_none rfl) rfl (tchop_ok _ _ _ _ _ hF158 ok30 (by omega) (by omega)) ?_
                    rintro e_ w ⟨rfl, hu158, ok158⟩
                    refine ⟨_, rfl, ?_⟩
                    replace H := hU158 hu158
                    replace H : Sat _ _ _ [_, _] := H
                    refine TF.u (v := (.bool _)) rfl rfl (pr_neq rfl rfl) ?_
                    refine TF.nil (nx_then ?_)
                    refine cw_cond _ rfl rfl (fun hq160 => by
                        have hp160 := dF (nT hq160)
                        exfalso
                        exact hp160 (by rw [e4])) ?_
                    intro hq160
                    have hp160 := dT (nF hq160)
                    refine cw_skip (nx_then ?_)
                    -- region 20 law.go:165
                    refine cw_region (clf [.U, .U, .U]) [0, 1, 2] rfl (by kernel_rfl) (by decide) ?_
                    simp only [e4] at H ok158
                    refine TF.u (v := (.int .i64 _)) rfl rfl (pr_move rfl) ?_
                    refine TF.u (v := (.int .i64 _)) rfl rfl (pr_quo rfl rfl (by omega) (show _ = ((m / 2 : Nat) : Int) from (IntWalk.i64_in _ (by omega)).trans (by omega))) ?_
                    refine TF.u (v := (.int .i64 _)) rfl rfl (pr_assign rfl) ?_
                    refine TF.nil (nx_then ?_)
                    refine cw_seq ?_
                    -- region 21 law.go:167
                    refine cw_region (clf [.U, .U, .U, .U, .U, .X, .X, .U, .U, .U, .U, .U, .U, .X, .X, .U, .U, .U, .U, .X, .U, .U, .U, .U]) [0, 1, 2, 3, 4, 5, 6, 7, 8, 9, 10, 11, 12, 13, 14, 15, 16, 17, 18, 19, 20, 21, 22, 23] rfl (by kernel_rfl) (by decide) ?_
                    have e5 : tAppend ⟨List.replicate (m / 2) 0, (min m (m / 2)), r, 0⟩ (List.replicate (r - (m / 2) + 1) 0) = (⟨List.replicate (m / 2) 0, (min m (m / 2)), r, 0⟩, 7) := tAppend_no (by simp; omega)
                    have e6 : tAppend ⟨List.replicate (m / 2) 0, (min m (m / 2)), r, 0⟩ (List.replicate (r - (m / 2)) 0) = (⟨List.replicate (m / 2) 0 ++ List.replicate (r - (m / 2)) 0, (min m (m / 2)), r, 0⟩, 0) := tAppend_yes (by simp; omega)
                    refine TF.u (v := (.pointer (some ⟨_, 0, none⟩))) rfl rfl (pr_move rfl) ?_
                    refine TF.u (v := (.int .i64 _)) rfl rfl (pr_move rfl) ?_
                    refine TF.u (v := (.int .i64 _)) rfl rfl (pr_move rfl) ?_
                    refine TF.u (v := (.int .i64 _)) rfl rfl (pr_sub rfl rfl (show _ = ((r - (m / 2) : Nat) : Int) from (IntWalk.i64_in _ (by omega)).trans (by omega))) ?_
                    refine TF.u (v := (.int .i64 _)) rfl rfl (pr_add rfl rfl (show _ = ((r - (m / 2) + 1 : Nat) : Int) from (IntWalk.i64_in _ (by omega)).trans (by omega))) ?_
                    refine TF.make (nl := r - (m / 2) + 1) (nc := r - (m / 2) + 1) (z1 := undef) H rfl (Cx.xx rfl) (wantF_none rfl) Try.underlying25 (Try.ty5) rfl rfl (by omega) (by omega) (by unfold maxLen; omega) ?_
                    clear H
                    intro bk161 w hltbk161 hb162 H
                    rw [made_u8] at H
                    replace H := H.toOwn (q := 0) (sz := 1) (nl := r - (m / 2) + 1) (nc := r - (m / 2) + 1) rfl (by simp [u8s_len]) (by omega) (by unfold maxLen; omega)
                    replace H : Sat _ _ _ [_, _, _] := H
                    rw [u8s_take, Nat.mul_one, List.take_of_length_le (by simp)] at H
                    obtain ⟨F163, hF163, hU163⟩ := H.focus (k := 2) rfl
                    refine TF.call (args := [(.pointer (some ⟨_, 0, none⟩)), (.slice _ _ _)]) Try.fn12 rfl rfl (wantF_none rfl) rfl (tappend_ok _ _ _ _ _ _ _ _ hF163 ok158 (H.rd (k := 0) rfl) (by first | omega | (simp only [List.length_append, List.length_cons, List.length_nil]; omega))) ?_
                    rintro e_ w ⟨rfl, hu163, ok163⟩
                    refine ⟨_, rfl, ?_⟩
                    replace H := hU163 hu163
                    replace H : Sat _ _ _ [_, _, _] := H
                    refine TF.u (v := (.bool _)) rfl rfl (pr_eql rfl rfl) ?_
                    refine TF.u (v := (.bool _)) rfl rfl (pr_move rfl) ?_
                    refine TF.split (dj := 99) rfl ?_ (fun hq165 => by
                        have hp165 := dF hq165
                        exfalso
                        exact hp165 (by rw [e5]))
                    intro hq165
                    have hp165 := dT hq165
                    refine TF.ug (v := (.pointer (some ⟨_, 0, none⟩))) rfl rfl (wantF_yes rfl rfl rfl hq165) (pr_move rfl) ?_
                    refine TF.ug (v := (.int .i64 _)) rfl rfl (wantF_yes rfl rfl rfl hq165) (pr_move rfl) ?_
                    refine TF.ug (v := (.int .i64 _)) rfl rfl (wantF_yes rfl rfl rfl hq165) (pr_move rfl) ?_
                    refine TF.ug (v := (.int .i64 _)) rfl rfl (wantF_yes rfl rfl rfl hq165) (pr_sub rfl rfl (show _ = ((r - (m / 2) : Nat) : Int) from (IntWalk.i64_in _ (by omega)).trans (by omega))) ?_
                    refine TF.make (nl := r - (m / 2)) (nc := r - (m / 2)) (z1 := undef) H rfl (Cx.xx rfl) (wantF_yes rfl rfl rfl hq165) Try.underlying25 (Try.ty5) rfl rfl (by omega) (by omega) (by unfold maxLen; omega) ?_
                    clear H
                    intro bk166 w hltbk166 hb167 H
                    rw [made_u8] at H
                    replace H := H.toOwn (q := 0) (sz := 1) (nl := r - (m / 2)) (nc := r - (m / 2)) rfl (by simp [u8s_len]) (by omega) (by unfold maxLen; omega)
                    replace H : Sat _ _ _ [_, _, _, _] := H
                    rw [u8s_take, Nat.mul_one, List.take_of_length_le (by simp)] at H
                    obtain ⟨F168, hF168, hU168⟩ := H.focus (k := 3) rfl
                    refine TF.call (args := [(.pointer (some ⟨_, 0, none⟩)), (.slice _ _ _)]) Try.fn12 rfl rfl (wantF_yes rfl rfl rfl hq165) rfl (tappend_ok _ _ _ _ _ _ _ _ hF168 ok163 (H.rd (k := 0) rfl) (by first | omega | (simp only [List.length_append, List.length_cons, List.length_nil]; omega))) ?_
                    rintro e_ w ⟨rfl, hu168, ok168⟩
                    refine ⟨_, rfl, ?_⟩
                    replace H := hU168 hu168
                    replace H : Sat _ _ _ [_, _, _, _] := H
                    refine TF.ug (v := (.bool _)) rfl rfl (wantF_yes rfl rfl rfl hq165) (pr_eql rfl rfl) ?_
                    refine TF.u (v := (.bool _)) rfl rfl (pr_pickT rfl hq165 rfl) ?_
                    refine TF.u (v := (.bool _)) rfl rfl (pr_move rfl) ?_
                    refine TF.split (dj := 108) rfl ?_ (fun hq170 => by
                        have hp170 := dF hq170
                        exfalso
                        exact hp170 (by rw [e5]; rw [e6]))
                    intro hq170
                    have hp170 := dT hq170
                    refine TF.ug (v := (.pointer (some ⟨_, 0, none⟩))) rfl rfl (wantF_yes rfl rfl rfl hq170) (pr_move rfl) ?_
                    obtain ⟨F172, hF172, hU172⟩ := H.focus (k := 3) rfl
                    refine TF.call (args := [(.pointer (some ⟨_, 0, none⟩))]) Try.fn17 rfl rfl (wantF_yes rfl rfl rfl hq170) rfl (tlen_ok _ _ _ _ hF172 ok168) ?_
                    rintro e_ w ⟨rfl, hb171⟩
                    refine ⟨_, rfl, ?_⟩
                    replace H := H.below hb171
                    refine TF.ug (v := (.int .i64 _)) rfl rfl (wantF_yes rfl rfl rfl hq170) (pr_move rfl) ?_
                    refine TF.ug (v := (.bool _)) rfl rfl (wantF_yes rfl rfl rfl hq170) (pr_eql rfl rfl) ?_
                    refine TF.u (v := (.bool _)) rfl rfl (pr_pickT rfl hq170 rfl) ?_
                    refine TF.u (v := (.bool _)) rfl rfl (pr_assign rfl) ?_
                    refine TF.nil (nx_then ?_)
                    refine cw_ret (fin1 (v := (.bool _)) Try.results6 rfl rfl ?_)
                    exact ⟨by rw [e5]; rw [e6]; simp; omega, H.base⟩
                  ·
                    have hp157 := hq157
                    refine cw_skip (nx_then ?_)
                    refine cw_seq ?_
                    -- region 21 law.go:167
                    refine cw_region (clf [.U, .U, .U, .U, .U, .X, .X, .U, .U, .U, .U, .U, .U, .X, .X, .U, .U, .U, .U, .X, .U, .U, .U, .U]) [0, 1, 2, 3, 4, 5, 6, 7, 8, 9, 10, 11, 12, 13, 14, 15, 16, 17, 18, 19, 20, 21, 22, 23] rfl (by kernel_rfl) (by decide) ?_
                    have e5 : tAppend ⟨List.replicate m 0, m, r, 0⟩ (List.replicate (r - m + 1) 0) = (⟨List.replicate m 0, m, r, 0⟩, 7) := tAppend_no (by simp; omega)
                    have e6 : tAppend ⟨List.replicate m 0, m, r, 0⟩ (List.replicate (r - m) 0) = (⟨List.replicate m 0 ++ List.replicate (r - m) 0, m, r, 0⟩, 0) := tAppend_yes (by simp; omega)
                    refine TF.u (v := (.pointer (some ⟨_, 0, none⟩))) rfl rfl (pr_move rfl) ?_
                    refine TF.u (v := (.int .i64 _)) rfl rfl (pr_move rfl) ?_
                    refine TF.u (v := (.int .i64 _)) rfl rfl (pr_move rfl) ?_
                    refine TF.u (v := (.int .i64 _)) rfl rfl (pr_sub rfl rfl (show _ = ((r - m : Nat) : Int) from (IntWalk.i64_in _ (by omega)).trans (by omega))) ?_
                    refine TF.u (v := (.int .i64 _)) rfl rfl (pr_add rfl rfl (show _ = ((r - m + 1 : Nat) : Int) from (IntWalk.i64_in _ (by omega)).trans (by omega))) ?_
                    refine TF.make (nl := r - m + 1) (nc := r - m + 1) (z1 := undef) H rfl (Cx.xx rfl) (wantF_none rfl) Try.underlying25 (Try.ty5) rfl rfl (by omega) (by omega) (by unfold maxLen; omega) ?_
                    clear H
                    intro bk174 w hltbk174 hb175 H
                    rw [made_u8] at H
                    replace H := H.toOwn (q := 0) (sz := 1) (nl := r - m + 1) (nc := r - m + 1) rfl (by simp [u8s_len]) (by omega) (by unfold maxLen; omega)
                    replace H : Sat _ _ _ [_, _, _] := H
                    rw [u8s_take, Nat.mul_one, List.take_of_length_le (by simp)] at H
                    obtain ⟨F176, hF176, hU176⟩ := H.focus (k := 2) rfl
                    refine TF.call (args := [(.pointer (some ⟨_, 0, none⟩)), (.slice _ _ _)]) Try.fn12 rfl rfl (wantF_none rfl) rfl (tappend_ok _ _ _ _ _ _ _ _ hF176 ok30 (H.rd (k := 0) rfl) (by first | omega | (simp only [List.length_append, List.length_cons, List.length_nil]; omega))) ?_
                    rintro e_ w ⟨rfl, hu176, ok176⟩
                    refine ⟨_, rfl, ?_⟩
                    replace H := hU176 hu176
                    replace H : Sat _ _ _ [_, _, _] := H
                    refine TF.u (v := (.bool _)) rfl rfl (pr_eql rfl rfl) ?_
                    refine TF.u (v := (.bool _)) rfl rfl (pr_move rfl) ?_
                    refine TF.split (dj := 99) rfl ?_ (fun hq178 => by
                        have hp178 := dF hq178
                        exfalso
                        exact hp178 (by rw [e5]))
                    intro hq178
                    have hp178 := dT hq178
                    refine TF.ug (v := (.pointer (some ⟨_, 0, none⟩))) rfl rfl (wantF_yes rfl rfl rfl hq178) (pr_move rfl) ?_
                    refine TF.ug (v := (.int .i64 _)) rfl rfl (wantF_yes rfl rfl rfl hq178) (pr_move rfl) ?_
                    refine TF.ug (v := (.int .i64 _)) rfl rfl (wantF_yes rfl rfl rfl hq178) (pr_move rfl) ?_
                    refine TF.ug (v := (.int .i64 _)) rfl rfl (wantF_yes rfl rfl rfl hq178) (pr_sub rfl rfl (show _ = ((r - m : Nat) : Int) from (IntWalk.i64_in _ (by omega)).trans (by omega))) ?_
                    refine TF.make (nl := r - m) (nc := r - m) (z1 := undef) H rfl (Cx.xx rfl) (wantF_yes rfl rfl rfl hq178) Try.underlying25 (Try.ty5) rfl rfl (by omega) (by omega) (by unfold maxLen; omega) ?_
                    clear H
                    intro bk179 w hltbk179 hb180 H
                    rw [made_u8] at H
                    replace H := H.toOwn (q := 0) (sz := 1) (nl := r - m) (nc := r - m) rfl (by simp [u8s_len]) (by omega) (by unfold maxLen; omega)
                    replace H : Sat _ _ _ [_, _, _, _] := H
                    rw [u8s_take, Nat.mul_one, List.take_of_length_le (by simp)] at H
                    obtain ⟨F181, hF181, hU181⟩ := H.focus (k := 3) rfl
                    refine TF.call (args := [(.pointer (some ⟨_, 0, none⟩)), (.slice _ _ _)]) Try.fn12 rfl rfl (wantF_yes rfl rfl rfl hq178) rfl (tappend_ok _ _ _ _ _ _ _ _ hF181 ok176 (H.rd (k := 0) rfl) (by first | omega | (simp only [List.length_append, List.length_cons, List.length_nil]; omega))) ?_
                    rintro e_ w ⟨rfl, hu181, ok181⟩
                    refine ⟨_, rfl, ?_⟩
                    replace H := hU181 hu181
                    replace H : Sat _ _ _ [_, _, _, _] := H
                    refine TF.ug (v := (.bool _)) rfl rfl (wantF_yes rfl rfl rfl hq178) (pr_eql rfl rfl) ?_
                    refine TF.u (v := (.bool _)) rfl rfl (pr_pickT rfl hq178 rfl) ?_
                    refine TF.u (v := (.bool _)) rfl rfl (pr_move rfl) ?_
                    refine TF.split (dj := 108) rfl ?_ (fun hq183 => by
                        have hp183 := dF hq183
                        exfalso
                        exact hp183 (by rw [e5]; rw [e6]))
                    intro hq183
                    have hp183 := dT hq183
                    refine TF.ug (v := (.pointer (some ⟨_, 0, none⟩))) rfl rfl (wantF_yes rfl rfl rfl hq183) (pr_move rfl) ?_
                    obtain ⟨F185, hF185, hU185⟩ := H.focus (k := 3) rfl
                    refine TF.call (args := [(.pointer (some ⟨_, 0, none⟩))]) Try.fn17 rfl rfl (wantF_yes rfl rfl rfl hq183) rfl (tlen_ok _ _ _ _ hF185 ok181) ?_
                    rintro e_ w ⟨rfl, hb184⟩
                    refine ⟨_, rfl, ?_⟩
                    replace H := H.below hb184
                    refine TF.ug (v := (.int .i64 _)) rfl rfl (wantF_yes rfl rfl rfl hq183) (pr_move rfl) ?_
                    refine TF.ug (v := (.bool _)) rfl rfl (wantF_yes rfl rfl rfl hq183) (pr_eql rfl rfl) ?_
                    refine TF.u (v := (.bool _)) rfl rfl (pr_pickT rfl hq183 rfl) ?_
                    refine TF.u (v := (.bool _)) rfl rfl (pr_assign rfl) ?_
                    refine TF.nil (nx_then ?_)
                    refine cw_ret (fin1 (v := (.bool _)) Try.results6 rfl rfl ?_)
                    exact ⟨by rw [e5]; rw [e6]; simp; omega, H.base⟩
            ·
              have hp32 := dF hq32
              refine TF.skip rfl (wantF_no rfl rfl rfl hq32) ?_
              refine TF.skip rfl (wantF_no rfl rfl rfl hq32) ?_
              refine TF.skip rfl (wantF_no rfl rfl rfl hq32) ?_
              refine TF.u (v := (.bool _)) rfl rfl (pr_pickF rfl hq32 rfl) ?_
              refine TF.nil (nx_then ?_)
              refine cw_condF (t := _) rfl rfl rfl ?_
              refine cw_skip (nx_then ?_)
              refine cw_seq ?_
              refine cw_seq ?_
              -- region 15 law.go:158
              refine cw_region (clf [.U, .U, .U, .U, .U, .U, .U, .U, .U, .U, .U, .U, .X, .U, .U, .U]) [0, 1, 2, 3, 4, 5, 6, 7, 8, 9, 10, 11, 12, 13, 14, 15] rfl (by kernel_rfl) (by decide) ?_
              have e3 : tCut ⟨List.replicate m 0, m, r, 0⟩ cut = (⟨List.replicate m 0, m, r, 0⟩, 1) := tCut_no (by simp only; omega)
              rw [e3] at H ok30 ⊢
              refine TF.u (v := (.int .i64 _)) rfl rfl (pr_move rfl) ?_
              refine TF.u (v := (.bool _)) rfl rfl (pr_eql rfl rfl) ?_
              refine TF.u (v := (.int .i64 _)) rfl rfl (pr_move rfl) ?_
              refine TF.u (v := (.bool _)) rfl rfl (pr_geq rfl rfl) ?_
              refine TF.u (v := (.bool _)) rfl rfl (pr_move rfl) ?_
              refine TF.split (dj := 71) rfl (fun hq189 => ?_) (fun hq189 => ?_)
              ·
                have hp189 := dT hq189
                refine TF.ug (v := (.int .i64 _)) rfl rfl (wantF_yes rfl rfl rfl hq189) (pr_move rfl) ?_
                refine TF.ug (v := (.int .i64 _)) rfl rfl (wantF_yes rfl rfl rfl hq189) (pr_move rfl) ?_
                refine TF.ug (v := (.bool _)) rfl rfl (wantF_yes rfl rfl rfl hq189) (pr_leq rfl rfl) ?_
                refine TF.u (v := (.bool _)) rfl rfl (pr_pickT rfl hq189 rfl) ?_
                refine TF.u (v := (.bool _)) rfl rfl (pr_bneq Try.underlying4 rfl rfl) ?_
                refine TF.u (v := (.bool _)) rfl rfl (pr_move rfl) ?_
                refine TF.split (dj := 77) rfl (fun hq192 => by
                    have hp192 := hq192
                    exfalso
                    first | omega | exact hp192 rfl | exact hp192 (by decide) | (simp at hp192; done) | (simp at hp192; omega)) ?_
                intro hq192
                have hp192 := hq192
                refine TF.ug (v := (.pointer (some ⟨_, 0, none⟩))) rfl rfl (wantF_yes rfl rfl rfl hq192) (pr_move rfl) ?_
                obtain ⟨F194, hF194, hU194⟩ := H.focus (k := 1) rfl
                refine TF.call (args := [(.pointer (some ⟨_, 0, none⟩))]) Try.fn17 rfl rfl (wantF_yes rfl rfl rfl hq192) rfl (tlen_ok _ _ _ _ hF194 ok30) ?_
                rintro e_ w ⟨rfl, hb193⟩
                refine ⟨_, rfl, ?_⟩
                replace H := H.below hb193
                refine TF.ug (v := (.int .i64 _)) rfl rfl (wantF_yes rfl rfl rfl hq192) (pr_move rfl) ?_
                refine TF.ug (v := (.bool _)) rfl rfl (wantF_yes rfl rfl rfl hq192) (pr_neq rfl rfl) ?_
                refine TF.u (v := (.bool _)) rfl rfl (pr_pickF rfl hq192 rfl) ?_
                refine TF.nil (nx_then ?_)
                refine cw_cond _ rfl rfl (fun hq196 => by
                    have hp196 := dF (nT hq196)
                    exfalso
                    first | omega | exact hp196 rfl | exact hp196 (by decide) | (simp at hp196; done) | (simp at hp196; omega)) ?_
                intro hq196
                have hp196 := dT (nF hq196)
                refine cw_skip (nx_then ?_)
                refine cw_seq ?_
                refine cw_seq ?_
                -- region 17 law.go:161
                refine cw_region (clf [.U]) [0] rfl (by kernel_rfl) (by decide) ?_
                refine TF.u (v := (.bool _)) rfl rfl (pr_move rfl) ?_
                refine TF.nil (nx_then ?_)
                refine cw_cond _ rfl rfl (fun hq197 => ?_) (fun hq197 => ?_)
                ·
                  have hp197 := hq197
                  refine cw_seq ?_
                  refine cw_seq ?_
                  -- region 18 law.go:162
                  refine cw_region (clf [.U, .U, .U, .X, .U]) [0, 1, 2, 3, 4] rfl (by kernel_rfl) (by decide) ?_
                  have hdv : ((m : Nat) : Int).tdiv 2 = ((m / 2 : Nat) : Int) := rfl
                  have e4 : tChop ⟨List.replicate m 0, m, r, 0⟩ ((m / 2 : Nat) : Int) = (⟨List.replicate (m / 2) 0, min m (m / 2), r, 0⟩, 0) := by rw [tChop_yes (by simp; omega)]; simp; omega
                  refine TF.u (v := (.pointer (some ⟨_, 0, none⟩))) rfl rfl (pr_move rfl) ?_
                  refine TF.u (v := (.int .i64 _)) rfl rfl (pr_move rfl) ?_
                  refine TF.u (v := (.int .i64 _)) rfl rfl (pr_quo rfl rfl (by omega) (show _ = ((m / 2 : Nat) : Int) from (IntWalk.i64_in _ (by omega)).trans (by omega))) ?_
                  obtain ⟨F198, hF198, hU198⟩ := H.focus (k := 1) rfl
                  refine TF.call (args := [(.pointer (some ⟨_, 0, none⟩)), (.int .i64 _)]) Try.fn19 rfl rfl (wantF_none rfl) rfl (tchop_ok _ _ _ _ _ hF198 ok30 (by omega) (by omega)) ?_
                  rintro e_ w ⟨rfl, hu198, ok198⟩
                  refine ⟨_, rfl, ?_⟩
                  replace H := hU198 hu198
                  replace H : Sat _ _ _ [_, _] := H
                  refine TF.u (v := (.bool _)) rfl rfl (pr_neq rfl rfl) ?_
                  refine TF.nil (nx_then ?_)
                  refine cw_cond _ rfl rfl (fun hq200 => by
                      have hp200 := dF (nT hq200)
                      exfalso
                      exact hp200 (by rw [e4])) ?_
                  intro hq200
                  have hp200 := dT (nF hq200)
                  refine cw_skip (nx_then ?_)
                  -- region 20 law.go:165
                  refine cw_region (clf [.U, .U, .U]) [0, 1, 2] rfl (by kernel_rfl) (by decide) ?_
                  simp only [e4] at H ok198
                  refine TF.u (v := (.int .i64 _)) rfl rfl (pr_move rfl) ?_
                  refine TF.u (v := (.int .i64 _)) rfl rfl (pr_quo rfl rfl (by omega) (show _ = ((m / 2 : Nat) : Int) from (IntWalk.i64_in _ (by omega)).trans (by omega))) ?_
                  refine TF.u (v := (.int .i64 _)) rfl rfl (pr_assign rfl) ?_
                  refine TF.nil (nx_then ?_)
                  refine cw_seq ?_
                  -- region 21 law.go:167
                  refine cw_region (clf [.U, .U, .U, .U, .U, .X, .X, .U, .U, .U, .U, .U, .U, .X, .X, .U, .U, .U, .U, .X, .U, .U, .U, .U]) [0, 1, 2, 3, 4, 5, 6, 7, 8, 9, 10, 11, 12, 13, 14, 15, 16, 17, 18, 19, 20, 21, 22, 23] rfl (by kernel_rfl) (by decide) ?_
                  have e5 : tAppend ⟨List.replicate (m / 2) 0, (min m (m / 2)), r, 0⟩ (List.replicate (r - (m / 2) + 1) 0) = (⟨List.replicate (m / 2) 0, (min m (m / 2)), r, 0⟩, 7) := tAppend_no (by simp; omega)
                  have e6 : tAppend ⟨List.replicate (m / 2) 0, (min m (m / 2)), r, 0⟩ (List.replicate (r - (m / 2)) 0) = (⟨List.replicate (m / 2) 0 ++ List.replicate (r - (m / 2)) 0, (min m (m / 2)), r, 0⟩, 0) := tAppend_yes (by simp; omega)
                  refine TF.u (v := (.pointer (some ⟨_, 0, none⟩))) rfl rfl (pr_move rfl) ?_
                  refine TF.u (v := (.int .i64 _)) rfl rfl (pr_move rfl) ?_
                  refine TF.u (v := (.int .i64 _)) rfl rfl (pr_move rfl) ?_
                  refine TF.u (v := (.int .i64 _)) rfl rfl (pr_sub rfl rfl (show _ = ((r - (m / 2) : Nat) : Int) from (IntWalk.i64_in _ (by omega)).trans (by omega))) ?_
                  refine TF.u (v := (.int .i64 _)) rfl rfl (pr_add rfl rfl (show _ = ((r - (m / 2) + 1 : Nat) : Int) from (IntWalk.i64_in _ (by omega)).trans (by omega))) ?_
                  refine TF.make (nl := r - (m / 2) + 1) (nc := r - (m / 2) + 1) (z1 := undef) H rfl (Cx.xx rfl) (wantF_none rfl) Try.underlying25 (Try.ty5) rfl rfl (by omega) (by omega) (by unfold maxLen; omega) ?_
                  clear H
                  intro bk201 w hltbk201 hb202 H
                  rw [made_u8] at H
                  replace H := H.toOwn (q := 0) (sz := 1) (nl := r - (m / 2) + 1) (nc := r - (m / 2) + 1) rfl (by simp [u8s_len]) (by omega) (by unfold maxLen; omega)
                  replace H : Sat _ _ _ [_, _, _] := H
                  rw [u8s_take, Nat.mul_one, List.take_of_length_le (by simp)] at H
                  obtain ⟨F203, hF203, hU203⟩ := H.focus (k := 2) rfl
                  refine TF.call (args := [(.pointer (some ⟨_, 0, none⟩)), (.slice _ _ _)]) Try.fn12 rfl rfl (wantF_none rfl) rfl (tappend_ok _ _ _ _ _ _ _ _ hF203 ok198 (H.rd (k := 0) rfl) (by first | omega | (simp only [List.length_append, List.length_cons, List.length_nil]; omega))) ?_
                  rintro e_ w ⟨rfl, hu203, ok203⟩
                  refine ⟨_, rfl, ?_⟩
                  replace H := hU203 hu203
                  replace H : Sat _ _ _ [_, _, _] := H
                  refine TF.u (v := (.bool _)) rfl rfl (pr_eql rfl rfl) ?_
                  refine TF.u (v := (.bool _)) rfl rfl (pr_move rfl) ?_
                  refine TF.split (dj := 99) rfl ?_ (fun hq205 => by
                      have hp205 := dF hq205
                      exfalso
                      exact hp205 (by rw [e5]))
                  intro hq205
                  have hp205 := dT hq205
                  refine TF.ug (v := (.pointer (some ⟨_, 0, none⟩))) rfl rfl (wantF_yes rfl rfl rfl hq205) (pr_move rfl) ?_
                  refine TF.ug (v := (.int .i64 _)) rfl rfl (wantF_yes rfl rfl rfl hq205) (pr_move rfl) ?_
                  refine TF.ug (v := (.int .i64 _)) rfl rfl (wantF_yes rfl rfl rfl hq205) (pr_move rfl) ?_
                  refine TF.ug (v := (.int .i64 _)) rfl rfl (wantF_yes rfl rfl rfl hq205) (pr_sub rfl rfl (show _ = ((r - (m / 2) : Nat) : Int) from (IntWalk.i64_in _ (by omega)).trans (by omega))) ?_
                  refine TF.make (nl := r - (m / 2)) (nc := r - (m / 2)) (z1 := undef) H rfl (Cx.xx rfl) (wantF_yes rfl rfl rfl hq205) Try.underlying25 (Try.ty5) rfl rfl (by omega) (by omega) (by unfold maxLen; omega) ?_
                  clear H
                  intro bk206 w hltbk206 hb207 H
                  rw [made_u8] at H
                  replace H := H.toOwn (q := 0) (sz := 1) (nl := r - (m / 2)) (nc := r - (m / 2)) rfl (by simp [u8s_len]) (by omega) (by unfold maxLen; omega)
                  replace H : Sat _ _ _ [_, _, _, _] := H
                  rw [u8s_take, Nat.mul_one, List.take_of_length_le (by simp)] at H
                  obtain ⟨F208, hF208, hU208⟩ := H.focus (k := 3) rfl
                  refine TF.call (args := [(.pointer (some ⟨_, 0, none⟩)), (.slice _ _ _)]) Try.fn12 rfl rfl (wantF_yes rfl rfl rfl hq205) rfl (tappend_ok _ _ _ _ _ _ _ _ hF208 ok203 (H.rd (k := 0) rfl) (by first | omega | (simp only [List.length_append, List.length_cons, List.length_nil]; omega))) ?_
                  rintro e_ w ⟨rfl, hu208, ok208⟩
                  refine ⟨_, rfl, ?_⟩
                  replace H := hU208 hu208
                  replace H : Sat _ _ _ [_, _, _, _] := H
                  refine TF.ug (v := (.bool _)) rfl rfl (wantF_yes rfl rfl rfl hq205) (pr_eql rfl rfl) ?_
                  refine TF.u (v := (.bool _)) rfl rfl (pr_pickT rfl hq205 rfl) ?_
                  refine TF.u (v := (.bool _)) rfl rfl (pr_move rfl) ?_
                  refine TF.split (dj := 108) rfl ?_ (fun hq210 => by
                      have hp210 := dF hq210
                      exfalso
                      exact hp210 (by rw [e5]; rw [e6]))
                  intro hq210
                  have hp210 := dT hq210
                  refine TF.ug (v := (.pointer (some ⟨_, 0, none⟩))) rfl rfl (wantF_yes rfl rfl rfl hq210) (pr_move rfl) ?_
                  obtain ⟨F212, hF212, hU212⟩ := H.focus (k := 3) rfl
                  refine TF.call (args := [(.pointer (some ⟨_, 0, none⟩))]) Try.fn17 rfl rfl (wantF_yes rfl rfl rfl hq210) rfl (tlen_ok _ _ _ _ hF212 ok208) ?_
                  rintro e_ w ⟨rfl, hb211⟩
                  refine ⟨_, rfl, ?_⟩
                  replace H := H.below hb211
                  refine TF.ug (v := (.int .i64 _)) rfl rfl (wantF_yes rfl rfl rfl hq210) (pr_move rfl) ?_
                  refine TF.ug (v := (.bool _)) rfl rfl (wantF_yes rfl rfl rfl hq210) (pr_eql rfl rfl) ?_
                  refine TF.u (v := (.bool _)) rfl rfl (pr_pickT rfl hq210 rfl) ?_
                  refine TF.u (v := (.bool _)) rfl rfl (pr_assign rfl) ?_
                  refine TF.nil (nx_then ?_)
                  refine cw_ret (fin1 (v := (.bool _)) Try.results6 rfl rfl ?_)
                  exact ⟨by rw [e5]; rw [e6]; simp; omega, H.base⟩
                ·
                  have hp197 := hq197
                  refine cw_skip (nx_then ?_)
                  refine cw_seq ?_
                  -- region 21 law.go:167
                  refine cw_region (clf [.U, .U, .U, .U, .U, .X, .X, .U, .U, .U, .U, .U, .U, .X, .X, .U, .U, .U, .U, .X, .U, .U, .U, .U]) [0, 1, 2, 3, 4, 5, 6, 7, 8, 9, 10, 11, 12, 13, 14, 15, 16, 17, 18, 19, 20, 21, 22, 23] rfl (by kernel_rfl) (by decide) ?_
                  have e5 : tAppend ⟨List.replicate m 0, m, r, 0⟩ (List.replicate (r - m + 1) 0) = (⟨List.replicate m 0, m, r, 0⟩, 7) := tAppend_no (by simp; omega)
                  have e6 : tAppend ⟨List.replicate m 0, m, r, 0⟩ (List.replicate (r - m) 0) = (⟨List.replicate m 0 ++ List.replicate (r - m) 0, m, r, 0⟩, 0) := tAppend_yes (by simp; omega)
                  refine TF.u (v := (.pointer (some ⟨_, 0, none⟩))) rfl rfl (pr_move rfl) ?_
                  refine TF.u (v := (.int .i64 _)) rfl rfl (pr_move rfl) ?_
                  refine TF.u (v := (.int .i64 _)) rfl rfl (pr_move rfl) ?_
                  refine TF.u (v := (.int .i64 _)) rfl rfl (pr_sub rfl rfl (show _ = ((r - m : Nat) : Int) from (IntWalk.i64_in _ (by omega)).trans (by omega))) ?_
                  refine TF.u (v := (.int .i64 _)) rfl rfl (pr_add rfl rfl (show _ = ((r - m + 1 : Nat) : Int) from (IntWalk.i64_in _ (by omega)).trans (by omega))) ?_
                  refine TF.make (nl := r - m + 1) (nc := r - m + 1) (z1 := undef) H rfl (Cx.xx rfl) (wantF_none rfl) Try.underlying25 (Try.ty5) rfl rfl (by omega) (by omega) (by unfold maxLen; omega) ?_
                  clear H
                  intro bk214 w hltbk214 hb215 H
                  rw [made_u8] at H
                  replace H := H.toOwn (q := 0) (sz := 1) (nl := r - m + 1) (nc := r - m + 1) rfl (by simp [u8s_len]) (by omega) (by unfold maxLen; omega)
                  replace H : Sat _ _ _ [_, _, _] := H
                  rw [u8s_take, Nat.mul_one, List.take_of_length_le (by simp)] at H
                  obtain ⟨F216, hF216, hU216⟩ := H.focus (k := 2) rfl
                  refine TF.call (args := [(.pointer (some ⟨_, 0, none⟩)), (.slice _ _ _)]) Try.fn12 rfl rfl (wantF_none rfl) rfl (tappend_ok _ _ _ _ _ _ _ _ hF216 ok30 (H.rd (k := 0) rfl) (by first | omega | (simp only [List.length_append, List.length_cons, List.length_nil]; omega))) ?_
                  rintro e_ w ⟨rfl, hu216, ok216⟩
                  refine ⟨_, rfl, ?_⟩
                  replace H := hU216 hu216
                  replace H : Sat _ _ _ [_, _, _] := H
                  refine TF.u (v := (.bool _)) rfl rfl (pr_eql rfl rfl) ?_
                  refine TF.u (v := (.bool _)) rfl rfl (pr_move rfl) ?_
                  refine TF.split (dj := 99) rfl ?_ (fun hq218 => by
                      have hp218 := dF hq218
                      exfalso
                      exact hp218 (by rw [e5]))
                  intro hq218
                  have hp218 := dT hq218
                  refine TF.ug (v := (.pointer (some ⟨_, 0, none⟩))) rfl rfl (wantF_yes rfl rfl rfl hq218) (pr_move rfl) ?_
                  refine TF.ug (v := (.int .i64 _)) rfl rfl (wantF_yes rfl rfl rfl hq218) (pr_move rfl) ?_
                  refine TF.ug (v := (.int .i64 _)) rfl rfl (wantF_yes rfl rfl rfl hq218) (pr_move rfl) ?_
                  refine TF.ug (v := (.int .i64 _)) rfl rfl (wantF_yes rfl rfl rfl hq218) (pr_sub rfl rfl (show _ = ((r - m : Nat) : Int) from (IntWalk.i64_in _ (by omega)).trans (by omega))) ?_
                  refine TF.make (nl := r - m) (nc := r - m) (z1 := undef) H rfl (Cx.xx rfl) (wantF_yes rfl rfl rfl hq218) Try.underlying25 (Try.ty5) rfl rfl (by omega) (by omega) (by unfold maxLen; omega) ?_
                  clear H
                  intro bk219 w hltbk219 hb220 H
                  rw [made_u8] at H
                  replace H := H.toOwn (q := 0) (sz := 1) (nl := r - m) (nc := r - m) rfl (by simp [u8s_len]) (by omega) (by unfold maxLen; omega)
                  replace H : Sat _ _ _ [_, _, _, _] := H
                  rw [u8s_take, Nat.mul_one, List.take_of_length_le (by simp)] at H
                  obtain ⟨F221, hF221, hU221⟩ := H.focus (k := 3) rfl
                  refine TF.call (args := [(.pointer (some ⟨_, 0, none⟩)), (.slice _ _ _)]) Try.fn12 rfl rfl (wantF_yes rfl rfl rfl hq218) rfl (tappend_ok _ _ _ _ _ _ _ _ hF221 ok216 (H.rd (k := 0) rfl) (by first | omega | (simp only [List.length_append, List.length_cons, List.length_nil]; omega))) ?_
                  rintro e_ w ⟨rfl, hu221, ok221⟩
                  refine ⟨_, rfl, ?_⟩
                  replace H := hU221 hu221
                  replace H : Sat _ _ _ [_, _, _, _] := H
                  refine TF.ug (v := (.bool _)) rfl rfl (wantF_yes rfl rfl rfl hq218) (pr_eql rfl rfl) ?_
                  refine TF.u (v := (.bool _)) rfl rfl (pr_pickT rfl hq218 rfl) ?_
                  refine TF.u (v := (.bool _)) rfl rfl (pr_move rfl) ?_
                  refine TF.split (dj := 108) rfl ?_ (fun hq223 => by
                      have hp223 := dF hq223
                      exfalso
                      exact hp223 (by rw [e5]; rw [e6]))
                  intro hq223
                  have hp223 := dT hq223
                  refine TF.ug (v := (.pointer (some ⟨_, 0, none⟩))) rfl rfl (wantF_yes rfl rfl rfl hq223) (pr_move rfl) ?_
                  obtain ⟨F225, hF225, hU225⟩ := H.focus (k := 3) rfl
                  refine TF.call (args := [(.pointer (some ⟨_, 0, none⟩))]) Try.fn17 rfl rfl (wantF_yes rfl rfl rfl hq223) rfl (tlen_ok _ _ _ _ hF225 ok221) ?_
                  rintro e_ w ⟨rfl, hb224⟩
                  refine ⟨_, rfl, ?_⟩
                  replace H := H.below hb224
                  refine TF.ug (v := (.int .i64 _)) rfl rfl (wantF_yes rfl rfl rfl hq223) (pr_move rfl) ?_
                  refine TF.ug (v := (.bool _)) rfl rfl (wantF_yes rfl rfl rfl hq223) (pr_eql rfl rfl) ?_
                  refine TF.u (v := (.bool _)) rfl rfl (pr_pickT rfl hq223 rfl) ?_
                  refine TF.u (v := (.bool _)) rfl rfl (pr_assign rfl) ?_
                  refine TF.nil (nx_then ?_)
                  refine cw_ret (fin1 (v := (.bool _)) Try.results6 rfl rfl ?_)
                  exact ⟨by rw [e5]; rw [e6]; simp; omega, H.base⟩
              ·
                have hp189 := dF hq189
                refine TF.skip rfl (wantF_no rfl rfl rfl hq189) ?_
                refine TF.skip rfl (wantF_no rfl rfl rfl hq189) ?_
                refine TF.skip rfl (wantF_no rfl rfl rfl hq189) ?_
                refine TF.u (v := (.bool _)) rfl rfl (pr_pickF rfl hq189 rfl) ?_
                refine TF.u (v := (.bool _)) rfl rfl (pr_bneq Try.underlying4 rfl rfl) ?_
                refine TF.u (v := (.bool _)) rfl rfl (pr_move rfl) ?_
                refine TF.split (dj := 77) rfl (fun hq228 => by
                    have hp228 := hq228
                    exfalso
                    first | omega | exact hp228 rfl | exact hp228 (by decide) | (simp at hp228; done) | (simp at hp228; omega)) ?_
                intro hq228
                have hp228 := hq228
                refine TF.ug (v := (.pointer (some ⟨_, 0, none⟩))) rfl rfl (wantF_yes rfl rfl rfl hq228) (pr_move rfl) ?_
                obtain ⟨F230, hF230, hU230⟩ := H.focus (k := 1) rfl
                refine TF.call (args := [(.pointer (some ⟨_, 0, none⟩))]) Try.fn17 rfl rfl (wantF_yes rfl rfl rfl hq228) rfl (tlen_ok _ _ _ _ hF230 ok30) ?_
                rintro e_ w ⟨rfl, hb229⟩
                refine ⟨_, rfl, ?_⟩
                replace H := H.below hb229
                refine TF.ug (v := (.int .i64 _)) rfl rfl (wantF_yes rfl rfl rfl hq228) (pr_move rfl) ?_
                refine TF.ug (v := (.bool _)) rfl rfl (wantF_yes rfl rfl rfl hq228) (pr_neq rfl rfl) ?_
                refine TF.u (v := (.bool _)) rfl rfl (pr_pickF rfl hq228 rfl) ?_
                refine TF.nil (nx_then ?_)
                refine cw_cond _ rfl rfl (fun hq232 => by
                    have hp232 := dF (nT hq232)
                    exfalso
                    first | omega | exact hp232 rfl | exact hp232 (by decide) | (simp at hp232; done) | (simp at hp232; omega)) ?_
                intro hq232
                have hp232 := dT (nF hq232)
                refine cw_skip (nx_then ?_)
                refine cw_seq ?_
                refine cw_seq ?_
                -- region 17 law.go:161
                refine cw_region (clf [.U]) [0] rfl (by kernel_rfl) (by decide) ?_
                refine TF.u (v := (.bool _)) rfl rfl (pr_move rfl) ?_
                refine TF.nil (nx_then ?_)
                refine cw_cond _ rfl rfl (fun hq233 => ?_) (fun hq233 => ?_)
                ·
                  have hp233 := hq233
                  refine cw_seq ?_
                  refine cw_seq ?_
                  -- region 18 law.go:162
                  refine cw_region (clf [.U, .U, .U, .X, .U]) [0, 1, 2, 3, 4] rfl (by kernel_rfl) (by decide) ?_
                  have hdv : ((m : Nat) : Int).tdiv 2 = ((m / 2 : Nat) : Int) := rfl
                  have e4 : tChop ⟨List.replicate m 0, m, r, 0⟩ ((m / 2 : Nat) : Int) = (⟨List.replicate (m / 2) 0, min m (m / 2), r, 0⟩, 0) := by rw [tChop_yes (by simp; omega)]; simp; omega
                  refine TF.u (v := (.pointer (some ⟨_, 0, none⟩))) rfl rfl (pr_move rfl) ?_
                  refine TF.u (v := (.int .i64 _)) rfl rfl (pr_move rfl) ?_
                  refine TF.u (v := (.int .i64 _)) rfl rfl (pr_quo rfl rfl (by omega) (show _ = ((m / 2 : Nat) : Int) from (IntWalk.i64_in _ (by omega)).trans (by omega))) ?_
                  obtain ⟨F234, hF234, hU234⟩ := H.focus (k := 1) rfl
                  refine TF.call (args := [(.pointer (some ⟨_, 0, none⟩)), (.int .i64 _)]) Try.fn19 rfl rfl (wantF_none rfl) rfl (tchop_ok _ _ _ _ _ hF234 ok30 (by omega) (by omega)) ?_
                  rintro e_ w ⟨rfl, hu234, ok234⟩
                  refine ⟨_, rfl, ?_⟩
                  replace H := hU234 hu234
                  replace H : Sat _ _ _ [_, _] := H
                  refine TF.u (v := (.bool _)) rfl rfl (pr_neq rfl rfl) ?_
                  refine TF.nil (nx_then ?_)
                  refine cw_cond _ rfl rfl (fun hq236 => by
                      have hp236 := dF (nT hq236)
                      exfalso
                      exact hp236 (by rw [e4])) ?_
                  intro hq236
                  have hp236 := dT (nF hq236)
                  refine cw_skip (nx_then ?_)
                  -- region 20 law.go:165
                  refine cw_region (clf [.U, .U, .U]) [0, 1, 2] rfl (by kernel_rfl) (by decide) ?_
                  simp only [e4] at H ok234
                  refine TF.u (v := (.int .i64 _)) rfl rfl (pr_move rfl) ?_
                  refine TF.u (v := (.int .i64 _)) rfl rfl (pr_quo rfl rfl (by omega) (show _ = ((m / 2 : Nat) : Int) from (IntWalk.i64_in _ (by omega)).trans (by omega))) ?_
                  refine TF.u (v := (.int .i64 _)) rfl rfl (pr_assign rfl) ?_
                  refine TF.nil (nx_then ?_)
                  refine cw_seq ?_
                  -- region 21 law.go:167
                  refine cw_region (clf [.U, .U, .U, .U, .U, .X, .X, .U, .U, .U, .U, .U, .U, .X, .X, .U, .U, .U, .U, .X, .U, .U, .U, .U]) [0, 1, 2, 3, 4, 5, 6, 7, 8, 9, 10, 11, 12, 13, 14, 15, 16, 17, 18, 19, 20, 21, 22, 23] rfl (by kernel_rfl) (by decide) ?_
                  have e5 : tAppend ⟨List.replicate (m / 2) 0, (min m (m / 2)), r, 0⟩ (List.replicate (r - (m / 2) + 1) 0) = (⟨List.replicate (m / 2) 0, (min m (m / 2)), r, 0⟩, 7) := tAppend_no (by simp; omega)
                  have e6 : tAppend ⟨List.replicate (m / 2) 0, (min m (m / 2)), r, 0⟩ (List.replicate (r - (m / 2)) 0) = (⟨List.replicate (m / 2) 0 ++ List.replicate (r - (m / 2)) 0, (min m (m / 2)), r, 0⟩, 0) := tAppend_yes (by simp; omega)
                  refine TF.u (v := (.pointer (some ⟨_, 0, none⟩))) rfl rfl (pr_move rfl) ?_
                  refine TF.u (v := (.int .i64 _)) rfl rfl (pr_move rfl) ?_
                  refine TF.u (v := (.int .i64 _)) rfl rfl (pr_move rfl) ?_
                  refine TF.u (v := (.int .i64 _)) rfl rfl (pr_sub rfl rfl (show _ = ((r - (m / 2) : Nat) : Int) from (IntWalk.i64_in _ (by omega)).trans (by omega))) ?_
                  refine TF.u (v := (.int .i64 _)) rfl rfl (pr_add rfl rfl (show _ = ((r - (m / 2) + 1 : Nat) : Int) from (IntWalk.i64_in _ (by omega)).trans (by omega))) ?_
                  refine TF.make (nl := r - (m / 2) + 1) (nc := r - (m / 2) + 1) (z1 := undef) H rfl (Cx.xx rfl) (wantF_none rfl) Try.underlying25 (Try.ty5) rfl rfl (by omega) (by omega) (by unfold maxLen; omega) ?_
                  clear H
                  intro bk237 w hltbk237 hb238 H
                  rw [made_u8] at H
                  replace H := H.toOwn (q := 0) (sz := 1) (nl := r - (m / 2) + 1) (nc := r - (m / 2) + 1) rfl (by simp [u8s_len]) (by omega) (by unfold maxLen; omega)
                  replace H : Sat _ _ _ [_, _, _] := H
                  rw [u8s_take, Nat.mul_one, List.take_of_length_le (by simp)] at H
                  obtain ⟨F239, hF239, hU239⟩ := H.focus (k := 2) rfl
                  refine TF.call (args := [(.pointer (some ⟨_, 0, none⟩)), (.slice _ _ _)]) Try.fn12 rfl rfl (wantF_none rfl) rfl (tappend_ok _ _ _ _ _ _ _ _ hF239 ok234 (H.rd (k := 0) rfl) (by first | omega | (simp only [List.length_append, List.length_cons, List.length_nil]; omega))) ?_
                  rintro e_ w ⟨rfl, hu239, ok239⟩
                  refine ⟨_, rfl, ?_⟩
                  replace H := hU239 hu239
                  replace H : Sat _ _ _ [_, _, _] := H
                  refine TF.u (v := (.bool _)) rfl rfl (pr_eql rfl rfl) ?_
                  refine TF.u (v := (.bool _)) rfl rfl (pr_move rfl) ?_
                  refine TF.split (dj := 99) rfl ?_ (fun hq241 => by
                      have hp241 := dF hq241
                      exfalso
                      exact hp241 (by rw [e5]))
                  intro hq241
                  have hp241 := dT hq241
                  refine TF.ug (v := (.pointer (some ⟨_, 0, none⟩))) rfl rfl (wantF_yes rfl rfl rfl hq241) (pr_move rfl) ?_
                  refine TF.ug (v := (.int .i64 _)) rfl rfl (wantF_yes rfl rfl rfl hq241) (pr_move rfl) ?_
                  refine TF.ug (v := (.int .i64 _)) rfl rfl (wantF_yes rfl rfl rfl hq241) (pr_move rfl) ?_
                  refine TF.ug (v := (.int .i64 _)) rfl rfl (wantF_yes rfl rfl rfl hq241) (pr_sub rfl rfl (show _ = ((r - (m / 2) : Nat) : Int) from (IntWalk.i64_in _ (by omega)).trans (by omega))) ?_
                  refine TF.make (nl := r - (m / 2)) (nc := r - (m / 2)) (z1 := undef) H rfl (Cx.xx rfl) (wantF_yes rfl rfl rfl hq241) Try.underlying25 (Try.ty5) rfl rfl (by omega) (by omega) (by unfold maxLen; omega) ?_
                  clear H
                  intro bk242 w hltbk242 hb243 H
                  rw [made_u8] at H
                  replace H := H.toOwn (q := 0) (sz := 1) (nl := r - (m / 2)) (nc := r - (m / 2)) rfl (by simp [u8s_len]) (by omega) (by unfold maxLen; omega)
                  replace H : Sat _ _ _ [_, _, _, _] := H
                  rw [u8s_take, Nat.mul_one, List.take_of_length_le (by simp)] at H
                  obtain ⟨F244, hF244, hU244⟩ := H.focus (k := 3) rfl
                  refine TF.call (args := [(.pointer (some ⟨_, 0, none⟩)), (.slice _ _ _)]) Try.fn12 rfl rfl (wantF_yes rfl rfl rfl hq241) rfl (tappend_ok _ _ _ _ _ _ _ _ hF244 ok239 (H.rd (k := 0) rfl) (by first | omega | (simp only [List.length_append, List.length_cons, List.length_nil]; omega))) ?_
                  rintro e_ w ⟨rfl, hu244, ok244⟩
                  refine ⟨_, rfl, ?_⟩
                  replace H := hU244 hu244
                  replace H : Sat _ _ _ [_, _, _, _] := H
                  refine TF.ug (v := (.bool _)) rfl rfl (wantF_yes rfl rfl rfl hq241) (pr_eql rfl rfl) ?_
                  refine TF.u (v := (.bool _)) rfl rfl (pr_pickT rfl hq241 rfl) ?_
                  refine TF.u (v := (.bool _)) rfl rfl (pr_move rfl) ?_
                  refine TF.split (dj := 108) rfl ?_ (fun hq246 => by
                      have hp246 := dF hq246
                      exfalso
                      exact hp246 (by rw [e5]; rw [e6]))
                  intro hq246
                  have hp246 := dT hq246
                  refine TF.ug (v := (.pointer (some ⟨_, 0, none⟩))) rfl rfl (wantF_yes rfl rfl rfl hq246) (pr_move rfl) ?_
                  obtain ⟨F248, hF248, hU248⟩ := H.focus (k := 3) rfl
                  refine TF.call (args := [(.pointer (some ⟨_, 0, none⟩))]) Try.fn17 rfl rfl (wantF_yes rfl rfl rfl hq246) rfl (tlen_ok _ _ _ _ hF248 ok244) ?_
                  rintro e_ w ⟨rfl, hb247⟩
                  refine ⟨_, rfl, ?_⟩
                  replace H := H.below hb247
                  refine TF.ug (v := (.int .i64 _)) rfl rfl (wantF_yes rfl rfl rfl hq246) (pr_move rfl) ?_
                  refine TF.ug (v := (.bool _)) rfl rfl (wantF_yes rfl rfl rfl hq246) (pr_eql rfl rfl) ?_
                  refine TF.u (v := (.bool _)) rfl rfl (pr_pickT rfl hq246 rfl) ?_
                  refine TF.u (v := (.bool _)) rfl rfl (pr_assign rfl) ?_
                  refine TF.nil (nx_then ?_)
                  refine cw_ret (fin1 (v := (.bool _)) Try.results6 rfl rfl ?_)
                  exact ⟨by rw [e5]; rw [e6]; simp; omega, H.base⟩
                ·
                  have hp233 := hq233
                  refine cw_skip (nx_then ?_)
                  refine cw_seq ?_
                  -- region 21 law.go:167
                  refine cw_region (clf [.U, .U, .U, .U, .U, .X, .X, .U, .U, .U, .U, .U, .U, .X, .X, .U, .U, .U, .U, .X, .U, .U, .U, .U]) [0, 1, 2, 3, 4, 5, 6, 7, 8, 9, 10, 11, 12, 13, 14, 15, 16, 17, 18, 19, 20, 21, 22, 23] rfl (by kernel_rfl) (by decide) ?_
                  have e5 : tAppend ⟨List.replicate m 0, m, r, 0⟩ (List.replicate (r - m + 1) 0) = (⟨List.replicate m 0, m, r, 0⟩, 7) := tAppend_no (by simp; omega)
                  have e6 : tAppend ⟨List.replicate m 0, m, r, 0⟩ (List.replicate (r - m) 0) = (⟨List.replicate m 0 ++ List.replicate (r - m) 0, m, r, 0⟩, 0) := tAppend_yes (by simp; omega)
                  refine TF.u (v := (.pointer (some ⟨_, 0, none⟩))) rfl rfl (pr_move rfl) ?_
                  refine TF.u (v := (.int .i64 _)) rfl rfl (pr_move rfl) ?_
                  refine TF.u (v := (.int .i64 _)) rfl rfl (pr_move rfl) ?_
                  refine TF.u (v := (.int .i64 _)) rfl rfl (pr_sub rfl rfl (show _ = ((r - m : Nat) : Int) from (IntWalk.i64_in _ (by omega)).trans (by omega))) ?_
                  refine TF.u (v := (.int .i64 _)) rfl rfl (pr_add rfl rfl (show _ = ((r - m + 1 : Nat) : Int) from (IntWalk.i64_in _ (by omega)).trans (by omega))) ?_
                  refine TF.make (nl := r - m + 1) (nc := r - m + 1) (z1 := undef) H rfl (Cx.xx rfl) (wantF_none rfl) Try.underlying25 (Try.ty5) rfl rfl (by omega) (by omega) (by unfold maxLen; omega) ?_
                  clear H
                  intro bk250 w hltbk250 hb251 H
                  rw [made_u8] at H
                  replace H := H.toOwn (q := 0) (sz := 1) (nl := r - m + 1) (nc := r - m + 1) rfl (by simp [u8s_len]) (by omega) (by unfold maxLen; omega)
                  replace H : Sat _ _ _ [_, _, _] := H
                  rw [u8s_take, Nat.mul_one, List.take_of_length_le (by simp)] at H
                  obtain ⟨F252, hF252, hU252⟩ := H.focus (k := 2) rfl
                  refine TF.call (args := [(.pointer (some ⟨_, 0, none⟩)), (.slice _ _ _)]) Try.fn12 rfl rfl (wantF_none rfl) rfl (tappend_ok _ _ _ _ _ _ _ _ hF252 ok30 (H.rd (k := 0) rfl) (by first | omega | (simp only [List.length_append, List.length_cons, List.length_nil]; omega))) ?_
                  rintro e_ w ⟨rfl, hu252, ok252⟩
                  refine ⟨_, rfl, ?_⟩
                  replace H := hU252 hu252
                  replace H : Sat _ _ _ [_, _, _] := H
                  refine TF.u (v := (.bool _)) rfl rfl (pr_eql rfl rfl) ?_
                  refine TF.u (v := (.bool _)) rfl rfl (pr_move rfl) ?_
                  refine TF.split (dj := 99) rfl ?_ (fun hq254 => by
                      have hp254 := dF hq254
                      exfalso
                      exact hp254 (by rw [e5]))
                  intro hq254
                  have hp254 := dT hq254
                  refine TF.ug (v := (.pointer (some ⟨_, 0, none⟩))) rfl rfl (wantF_yes rfl rfl rfl hq254) (pr_move rfl) ?_
                  refine TF.ug (v := (.int .i64 _)) rfl rfl (wantF_yes rfl rfl rfl hq254) (pr_move rfl) ?_
                  refine TF.ug (v := (.int .i64 _)) rfl rfl (wantF_yes rfl rfl rfl hq254) (pr_move rfl) ?_
                  refine TF.ug (v := (.int .i64 _)) rfl rfl (wantF_yes rfl rfl rfl hq254) (pr_sub rfl rfl (show _ = ((r - m : Nat) : Int) from (IntWalk.i64_in _ (by omega)).trans (by omega))) ?_
                  refine TF.make (nl := r - m) (nc := r - m) (z1 := undef) H rfl (Cx.xx rfl) (wantF_yes rfl rfl rfl hq254) Try.underlying25 (Try.ty5) rfl rfl (by omega) (by omega) (by unfold maxLen; omega) ?_
                  clear H
                  intro bk255 w hltbk255 hb256 H
                  rw [made_u8] at H
                  replace H := H.toOwn (q := 0) (sz := 1) (nl := r - m) (nc := r - m) rfl (by simp [u8s_len]) (by omega) (by unfold maxLen; omega)
                  replace H : Sat _ _ _ [_, _, _, _] := H
                  rw [u8s_take, Nat.mul_one, List.take_of_length_le (by simp)] at H
                  obtain ⟨F257, hF257, hU257⟩ := H.focus (k := 3) rfl
                  refine TF.call (args := [(.pointer (some ⟨_, 0, none⟩)), (.slice _ _ _)]) Try.fn12 rfl rfl (wantF_yes rfl rfl rfl hq254) rfl (tappend_ok _ _ _ _ _ _ _ _ hF257 ok252 (H.rd (k := 0) rfl) (by first | omega | (simp only [List.length_append, List.length_cons, List.length_nil]; omega))) ?_
                  rintro e_ w ⟨rfl, hu257, ok257⟩
                  refine ⟨_, rfl, ?_⟩
                  replace H := hU257 hu257
                  replace H : Sat _ _ _ [_, _, _, _] := H
                  refine TF.ug (v := (.bool _)) rfl rfl (wantF_yes rfl rfl rfl hq254) (pr_eql rfl rfl) ?_
                  refine TF.u (v := (.bool _)) rfl rfl (pr_pickT rfl hq254 rfl) ?_
                  refine TF.u (v := (.bool _)) rfl rfl (pr_move rfl) ?_
                  refine TF.split (dj := 108) rfl ?_ (fun hq259 => by
                      have hp259 := dF hq259
                      exfalso
                      exact hp259 (by rw [e5]; rw [e6]))
                  intro hq259
                  have hp259 := dT hq259
                  refine TF.ug (v := (.pointer (some ⟨_, 0, none⟩))) rfl rfl (wantF_yes rfl rfl rfl hq259) (pr_move rfl) ?_
                  obtain ⟨F261, hF261, hU261⟩ := H.focus (k := 3) rfl
                  refine TF.call (args := [(.pointer (some ⟨_, 0, none⟩))]) Try.fn17 rfl rfl (wantF_yes rfl rfl rfl hq259) rfl (tlen_ok _ _ _ _ hF261 ok257) ?_
                  rintro e_ w ⟨rfl, hb260⟩
                  refine ⟨_, rfl, ?_⟩
                  replace H := H.below hb260
                  refine TF.ug (v := (.int .i64 _)) rfl rfl (wantF_yes rfl rfl rfl hq259) (pr_move rfl) ?_
                  refine TF.ug (v := (.bool _)) rfl rfl (wantF_yes rfl rfl rfl hq259) (pr_eql rfl rfl) ?_
                  refine TF.u (v := (.bool _)) rfl rfl (pr_pickT rfl hq259 rfl) ?_
                  refine TF.u (v := (.bool _)) rfl rfl (pr_assign rfl) ?_
                  refine TF.nil (nx_then ?_)
                  refine cw_ret (fin1 (v := (.bool _)) Try.results6 rfl rfl ?_)
                  exact ⟨by rw [e5]; rw [e6]; simp; omega, H.base⟩
end Go.Proofs.Ytdanpfiombbdoaa
namespace Go.Proofs.Ytdanpfiombbdoaa
open Go.ChangeShapes Go.WideShapes Go.ChangeAt Go.RowKit
open Go.ChangeMaps (open_string shut_string)
theorem tapeRoom_own : ownKnob Try.prog.godebug = none := by kernel_rfl
set_option maxRecDepth 100000 in
theorem tapeRoom_lifted (os : Os) (started : os.Started) (H : Type) (enc : TypeId × Value → H) :
    ReturnsInHanded {} Try.checked os 6 .any (Rows.tapeRoomSpec.pre6 enc Try.prog Try.f6 Rows.tapeRoomRow.domain false) (Rows.tapeRoomSpec.post enc Try.prog Try.f6 false true false false) := by
  refine returnsInHanded_of_change_sized (C := Try.checked) tapeRoom_own started (by kernel_rfl) Try.func6
    (ChangeSpec.witness6 (enc := enc) (C := Try.checked) false ⟨#[], #[.int .i64 0, .int .i64 0, .int .i64 0, .bool false], []⟩ 8 (by kernel_rfl) (by kernel_rfl) (by kernel_rfl) (by kernel_rfl)) ?_
  intro W base args ds gs before hval0 hW hcnd hsz0 _
  have hval : ∀ (j : Nat) t v, Try.f6.params[j]? = some t → args[j]? = some v → Value.okWide Try.prog W .any base t v := hval0
  have hW' := hW
  obtain ⟨p, q, hA0, hV, rfl, hfz, hnd⟩ := hW
  have hA : DataW.TrodAll enc Try.prog W 0 (fun _ => true) true Try.f6.params.toList args.toList ds p := hA0
  have hsz : (DataW.weightsEach Try.prog (Try.f6.params.toList ++ Rows.tapeRoomSpec.plain.varTypes Try.prog) (ds ++ gs)).all (· ≤ reachBytes) = true := hsz0
  rw [Try.params6] at hA hval hsz
  obtain ⟨v0, vs0, d0, ds0, p0, q0, hargs, rfl, rfl, h0, r0⟩ := trodAll_cons hA
  obtain ⟨v1, vs1, d1, ds1, p1, q1, rfl, rfl, rfl, h1, r1⟩ := trodAll_cons r0
  obtain ⟨v2, vs2, d2, ds2, p2, q2, rfl, rfl, rfl, h2, r2⟩ := trodAll_cons r1
  obtain ⟨v3, vs3, d3, ds3, p3, q3, rfl, rfl, rfl, h3, r3⟩ := trodAll_cons r2
  obtain ⟨rfl, rfl, rfl⟩ := trodAll_nil r3
  obtain rfl : args = #[v0, v1, v2, v3] := by cases args; simp_all
  obtain ⟨rfl, rfl⟩ := trodVars_none hV
  obtain ⟨a0, rfl, rfl, rfl, m0⟩ := open_int Try.underlying3 (hval 0 3 v0 rfl rfl) h0
  have z0 := bounds_i64 m0
  obtain ⟨a1, rfl, rfl, rfl, m1⟩ := open_int Try.underlying3 (hval 1 3 v1 rfl rfl) h1
  have z1 := bounds_i64 m1
  obtain ⟨a2, rfl, rfl, rfl, m2⟩ := open_int Try.underlying3 (hval 2 3 v2 rfl rfl) h2
  have z2 := bounds_i64 m2
  obtain ⟨a3, rfl, rfl, rfl⟩ := open_bool Try.underlying4 (hval 3 4 v3 rfl rfl) h3
  clear hA0 hval0
  refine (TapeRoom_ok a0 a1 a2 a3 W z0.1 z0.2 z1.1 z1.2 z2.1 z2.2).mono fun e W' ⟨he, bel⟩ => ?_
  subst he
  exact ⟨_, rfl, _, _, _, [], _, [], hW', trodAll_mk1 (shut_bool Try.underlying4 _), (trodAll_cons_mk (shut_int Try.underlying3 m0) (trodAll_cons_mk (shut_int Try.underlying3 m1) (trodAll_cons_mk (shut_int Try.underlying3 m2) (trodAll_cons_mk (shut_bool Try.underlying4 _) trodAll_mk0)))), rfl, bel.frame _, fun h => by cases h⟩
theorem tapeRoom_holds : Rows.TapeRoomSaid :=
  OpenClaim.holds_of_wide 6 Try.f6 rfl rfl rfl rfl rfl rfl rfl ⟨rfl, rfl, rfl, rfl, rfl⟩ rfl rfl rfl rfl rfl (by kernel_rfl) Try.func6 (by kernel_rfl)
    (of_decide_eq_true (by kernel_rfl)) (by unfold Func.isWrapper; first | (rw [if_pos (by decide +kernel)]; kernel_rfl) | (rw [if_neg (by decide +kernel)]; exact ⟨rfl, rfl⟩))
    (fun os started H enc _ => tapeRoom_lifted os started H enc)
end Go.Proofs.Ytdanpfiombbdoaa
