/- The given statement Rows.PageTurnedSaid: quayside/quaysidelaw04.PageTurned returns true for all arguments, and leaves its arguments as they were. No further condition. -/
import Derived.Test.YtnhopkokdnbgjaaFns3
import Derived.Test.YtnhopkokdnbgjaaRows
import Derived.Test.YtnhopkokdnbgjaaPage2
import Derived.Test.YtnhopkokdnbgjaaArgsP
import Derived.Test.YtnhopkokdnbgjaaCore12
import Derived.Test.YtnhopkokdnbgjaaPage3
import Derived.Test.YtnhopkokdnbgjaaArgs
import Derived.WalkKit
import Derived.ProofKit
import Derived.OpenShut
import Derived.ShutString
import Derived.ChangeOld
import Derived.Below
import Derived.SizedLaws
import Derived.JoinedCond
set_option linter.unusedSimpArgs false
set_option linter.unusedVariables false
set_option maxRecDepth 10000
namespace Go.Proofs.Ytnhopkokdnbgjaa
open Go.Q Go.RowKit Go.Proofs
theorem Try.fn10 : Fnc Try.prog 10 Try.f10 := ⟨Try.func10, by kernel_rfl, by kernel_rfl⟩
theorem Try.fn15 : Fnc Try.prog 15 Try.f15 := ⟨Try.func15, by kernel_rfl, by kernel_rfl⟩
theorem PageTurned_ok (id : Int) (p : PG) (second : Bool) (stamp : Bool) (at_ : Nat) (turn : R) (w0 : World) (hid1 : -9223372036854775808 ≤ id) (hid2 : id ≤ 9223372036854775807) (ok_p : POk p) (hat_ : at_ < 18446744073709551616)  :
    Calls Try.prog 9 #[.int .i64 id, .agg ⟨pgV p⟩, .bool second, .bool stamp, .int .u64 (at_ : Int), .int .u32 ((turn.toNat : Nat) : Int)] w0 fun e w => e = .returned (.bool true) ∧ Below w0.heap.size w0 w := by
  refine enter (args := [.int .i64 id, .agg ⟨pgV p⟩, .bool second, .bool stamp, .int .u64 (at_ : Int), .int .u32 ((turn.toNat : Nat) : Int)]) Try.func9 rfl Try.ntmps9 rfl ?_
  have H := Sat.start w0
  refine cw_seq ?_
  -- region 0 law.go:101
  refine cw_region (clf [.X, .U]) [0, 1] rfl (by kernel_rfl) (by decide) ?_
  refine TF.box (v := (.agg ⟨pgV p⟩)) H rfl (Cx.xx rfl) (wantF_none rfl) rfl rfl ?_
  clear H
  intro bk1 w hltbk1 hb2 H
  refine TF.u (v := (.bool _)) rfl rfl (pr_assign rfl) ?_
  refine TF.nil (nx_then ?_)
  refine cw_seq ?_
  refine cw_seq ?_
  -- region 1 law.go:102
  refine cw_region (clf [.X, .U, .U, .U, .U, .U]) [0, 1, 2, 3, 4, 5] rfl (by kernel_rfl) (by decide) ?_
  refine TF.call (args := []) Try.fn10 rfl rfl (wantF_none rfl) rfl (awake_ok _) ?_
  rintro e_ w ⟨rfl, hb3⟩
  refine ⟨_, rfl, ?_⟩
  replace H := H.below hb3
  refine TF.u (v := (.bool _)) rfl rfl (pr_not rfl) ?_
  refine TF.u (v := (.bool _)) rfl rfl (pr_move rfl) ?_
  refine TF.ug (v := (.int .u32 _)) rfl rfl (wantF_yes rfl rfl rfl rfl) (pr_move rfl) ?_
  refine TF.ug (v := (.bool _)) rfl rfl (wantF_yes rfl rfl rfl rfl) (pr_eql rfl rfl) ?_
  refine TF.u (v := (.bool _)) rfl rfl (pr_pickF rfl rfl rfl) ?_
  refine TF.nil (nx_then ?_)
  refine cw_cond _ rfl rfl (fun hq5 => ?_) (fun hq5 => ?_)
  ·
    have hp5 := dT hq5
    refine cw_seq ?_
    -- region 2 law.go:103
    refine cw_region (clf [.X, .U]) [0, 1] rfl (by kernel_rfl) (by decide) ?_
    refine TF.call (args := []) Try.fn10 rfl rfl (wantF_none rfl) rfl (awake_ok _) ?_
    rintro e_ w ⟨rfl, hb6⟩
    refine ⟨_, rfl, ?_⟩
    replace H := H.below hb6
    refine TF.u (v := (.bool _)) rfl rfl (pr_assign rfl) ?_
    refine TF.nil (nx_then ?_)
    refine cw_ret (rt_then (fin1 (v := (.bool _)) Try.results9 rfl rfl ?_))
    exact ⟨by simp, H.base⟩
  ·
    have hp5 := dF hq5
    refine cw_skip (nx_then ?_)
    refine cw_seq ?_
    -- region 3 law.go:105
    refine cw_region (clf [.U, .X, .X, .U, .U, .U, .U, .U]) [0, 1, 2, 3, 4, 5, 6, 7] rfl (by kernel_rfl) (by decide) ?_
    refine TF.u (v := (.int .i64 _)) rfl rfl (pr_move rfl) ?_
    refine TF.loadE (cs' := pgV p) rfl rfl (wantF_none rfl) (Try.ty27.s) rfl rfl (H.blk (k := 0) rfl) (pgV_len ok_p.len) (pgV_all ok_p.len) ?_
    refine TF.call (args := [(.int .i64 _), (.agg ⟨pgV p⟩)]) Try.fn11 rfl rfl (wantF_none rfl) rfl (encode_ok _ p ok_p _ (by omega) (by omega)) ?_
    rintro e_ w ⟨A7, n7, c7, rfl, hn7⟩
    refine ⟨_, rfl, ?_⟩
    replace H := H.newS hn7
    refine TF.u (v := (.tuple _)) rfl rfl (pr_move rfl) ?_
    refine TF.u (v := (.slice _ _ _)) rfl rfl (pr_extract (vs := _) rfl rfl) ?_
    refine TF.u (v := (.int .i64 _)) rfl rfl (pr_extract (vs := _) rfl rfl) ?_
    refine TF.u (v := (.slice _ _ _)) rfl rfl (pr_assign rfl) ?_
    refine TF.u (v := (.int .i64 _)) rfl rfl (pr_assign rfl) ?_
    refine TF.nil (nx_then ?_)
    refine cw_seq ?_
    refine cw_seq ?_
    -- region 4 law.go:106
    refine cw_region (clf [.U, .U]) [0, 1] rfl (by kernel_rfl) (by decide) ?_
    refine TF.u (v := (.int .i64 _)) rfl rfl (pr_move rfl) ?_
    refine TF.u (v := (.bool _)) rfl rfl (pr_neq rfl rfl) ?_
    refine TF.nil (nx_then ?_)
    refine cw_cond _ rfl rfl (fun hq10 => ?_) (fun hq10 => ?_)
    ·
      have hp10 := dF (nT hq10)
      refine cw_seq ?_
      -- region 5 law.go:107
      refine cw_region (clf [.U]) [0] rfl (by kernel_rfl) (by decide) ?_
      refine TF.u (v := (.bool _)) rfl rfl (pr_assign rfl) ?_
      refine TF.nil (nx_then ?_)
      refine cw_ret (rt_then (fin1 (v := (.bool _)) Try.results9 rfl rfl ?_))
      exact ⟨by simp, H.base⟩
    ·
      have hp10 := dT (nF hq10)
      refine cw_skip (nx_then ?_)
      refine cw_seq ?_
      -- region 6 law.go:109
      refine cw_region (clf [.U, .U]) [0, 1] rfl (by kernel_rfl) (by decide) ?_
      obtain ⟨hnum, hr, hen⟩ := encS_ok (id := id) (p := p) (by assumption)
      rw [hen] at H
      have him := imageS_len (id := id.toNat) ok_p.len hr
      have hz := (H.rdB (k := 0) rfl).length
      refine TF.u (v := (.int .i64 _)) rfl rfl (pr_assign rfl) ?_
      refine TF.u (v := (.int .u64 _)) rfl rfl (pr_assign rfl) ?_
      refine TF.nil (nx_then ?_)
      refine cw_seq ?_
      refine cw_seq ?_
      -- region 7 law.go:110
      refine cw_region (clf [.U]) [0] rfl (by kernel_rfl) (by decide) ?_
      refine TF.u (v := (.bool _)) rfl rfl (pr_move rfl) ?_
      refine TF.nil (nx_then ?_)
      refine cw_cond _ rfl rfl (fun hq11 => ?_) (fun hq11 => ?_)
      ·
        have hp11 := hq11
        -- region 8 law.go:111
        refine cw_region (clf [.U, .U]) [0, 1] rfl (by kernel_rfl) (by decide) ?_
        refine TF.u (v := (.int .i64 _)) rfl rfl (pr_assign rfl) ?_
        refine TF.u (v := (.int .u64 _)) rfl rfl (pr_assign rfl) ?_
        refine TF.nil (nx_then ?_)
        refine cw_seq ?_
        refine cw_seq ?_
        -- region 9 law.go:113
        refine cw_region (clf [.U]) [0] rfl (by kernel_rfl) (by decide) ?_
        refine TF.u (v := (.bool _)) rfl rfl (pr_move rfl) ?_
        refine TF.nil (nx_then ?_)
        refine cw_cond _ rfl rfl (fun hq12 => ?_) (fun hq12 => ?_)
        ·
          have hp12 := hq12
          -- region 10 law.go:114
          refine cw_region (clf [.U, .U, .U]) [0, 1, 2] rfl (by kernel_rfl) (by decide) ?_
          refine TF.u (v := (.int .i64 _)) rfl rfl (pr_move rfl) ?_
          refine TF.u (v := (.int .i64 _)) rfl rfl (pr_add rfl rfl (IntWalk.i64_in _ (by omega))) ?_
          refine TF.u (v := (.int .i64 _)) rfl rfl (pr_assign rfl) ?_
          refine TF.nil (nx_then ?_)
          refine cw_seq ?_
          -- region 11 law.go:116
          refine cw_region (clf [.U, .U, .U, .U, .U, .U]) [0, 1, 2, 3, 4, 5] rfl (by kernel_rfl) (by decide) ?_
          have hkm := Nat.mod_lt at_ (show 0 < 33 by omega)
          refine TF.u (v := (.int .u64 _)) rfl rfl (pr_move rfl) ?_
          refine TF.u (v := (.int .u64 _)) rfl rfl (pr_move rfl) ?_
          refine TF.u (v := (.int .u64 _)) rfl rfl (pr_sub rfl rfl (show _ = ((33 : Nat) : Int) from rfl)) ?_
          refine TF.u (v := (.int .u64 _)) rfl rfl (pr_rem rfl rfl (by omega) (Int.ofNat_tmod _ _).symm) ?_
          refine TF.u (v := (.int .i64 _)) rfl rfl (pr_conv Try.underlying49 Try.underlying3 rfl (show _ = ((at_ % 33 : Nat) : Int) from IntWalk.i64_in _ (by omega))) ?_
          refine TF.u (v := (.int .i64 _)) rfl rfl (pr_assign rfl) ?_
          generalize at_ % 33 = k at hkm ⊢
          refine TF.nil (nx_then ?_)
          refine cw_seq ?_
          refine cw_seq ?_
          -- region 12 law.go:117
          refine cw_region (clf [.U]) [0] rfl (by kernel_rfl) (by decide) ?_
          refine TF.u (v := (.int .i64 _)) rfl rfl (pr_assign rfl) ?_
          refine TF.nil (nx_then ?_)
          refine cw_block ?_
          refine cw_loop (fun m f w => ∃ (g_ : Nat → Value) (i : Nat) (xs : List UInt8), m = 32 - i ∧ f = (upd (upd (upd (upd (upd (upd (upd g_ 0 (.int .i64 id)) 3 (.bool stamp)) 5 (.int .u32 ((turn.toNat : Nat) : Int))) 13 (.slice A7 n7 c7)) 15 (.int .i64 (128 : Int))) 17 (.int .i64 (k : Int))) 18 (.int .i64 (i : Int))) ∧ Sat [] w0 w [cOwnB 5 A7 n7 c7 xs] ∧ (i ≤ 32) ∧ (xs.length = 256) ∧ (∀ j, j < 2048 → bitAt xs j = (bitAt (imageS id.toNat p) j ^^ wn (1024 + k) i turn j))) (32 - 0) ?_ ?_
          ·
            exact ⟨_, 0, _, rfl, (cutS (cutS (cutS (cutS (cutS (cutS (cutS rfl rfl) rfl) rfl) rfl) rfl) rfl) rfl), (H.del 1), Nat.zero_le _, him, fun j hj => by rw [wn_0, Bool.xor_false]⟩
          ·
            clear H
            rintro m_ f_ w ⟨g_, i, xs, rfl, rfl, H, hi, hx1, hx2⟩
            refine cw_seq ?_
            refine cw_seq ?_
            -- region 13 law.go:117
            refine cw_region (clf [.U, .U]) [0, 1] rfl (by kernel_rfl) (by decide) ?_
            refine TF.u (v := (.int .i64 _)) rfl rfl (pr_move rfl) ?_
            refine TF.u (v := (.bool _)) rfl rfl (pr_lss rfl rfl) ?_
            refine TF.nil (nx_then ?_)
            refine cw_cond _ rfl rfl (fun hq14 => ?_) (fun hq14 => ?_)
            ·
              have hp14 := dT hq14
              refine cw_skip (nx_then ?_)
              refine cw_seq ?_
              refine cw_block ?_
              refine cw_seq ?_
              -- region 15 law.go:118
              refine cw_region (clf [.U, .U, .U, .U, .U, .U]) [0, 1, 2, 3, 4, 5] rfl (by kernel_rfl) (by decide) ?_
              refine TF.u (v := (.int .u32 _)) rfl rfl (pr_move rfl) ?_
              refine TF.u (v := (.int .i64 _)) rfl rfl (pr_move rfl) ?_
              refine TF.u (v := (.int .u64 _)) rfl rfl (pr_conv Try.underlying3 Try.underlying49 rfl (IntWalk.u64_in _ (by omega))) ?_
              refine TF.u (v := (.int .u32 _)) rfl rfl (pr_shr rfl rfl (by omega) (shr32 _ i (by omega))) ?_
              refine TF.u (v := (.int .u32 _)) rfl rfl (pr_and rfl rfl (a32 _)) ?_
              refine TF.u (v := (.bool _)) rfl rfl (pr_eql rfl rfl) ?_
              refine TF.nil (nx_then ?_)
              refine cw_cond _ rfl rfl (fun hq16 => ?_) (fun hq16 => ?_)
              ·
                have hp16 := dT hq16
                -- region 16 law.go:119
                refine cw_region (clf [.U, .U, .U, .U, .U, .U, .U, .U, .X, .U, .U, .U, .U, .U, .U, .U, .U, .X]) [0, 1, 2, 3, 4, 5, 6, 7, 8, 9, 10, 11, 12, 13, 14, 15, 16, 17] rfl (by kernel_rfl) (by decide) ?_
                have hbit := shr_low.symm.trans (low_T (by assumption))
                refine TF.u (v := (.slice _ _ _)) rfl rfl (pr_move rfl) ?_
                refine TF.u (v := (.int .i64 _)) rfl rfl (pr_move rfl) ?_
                refine TF.u (v := (.int .i64 _)) rfl rfl (pr_move rfl) ?_
                refine TF.u (v := (.int .i64 _)) rfl rfl (pr_move rfl) ?_
                refine TF.u (v := (.int .i64 _)) rfl rfl (pr_add rfl rfl (IntWalk.i64_in _ (by omega))) ?_
                refine TF.u (v := (.int .i64 _)) rfl rfl (pr_quo rfl rfl (by omega) (show _ = (((k + i) / 8 : Nat) : Int) from IntWalk.i64_in _ (by have : (((k : Int) + (i : Int)).tdiv 8) = (((k + i) / 8 : Nat) : Int) := rfl; omega))) ?_
                refine TF.u (v := (.int .i64 _)) rfl rfl (pr_add rfl rfl (show _ = ((128 + (k + i) / 8 : Nat) : Int) from (IntWalk.i64_in _ (by omega)).trans (by omega))) ?_
                refine TF.idxB (H.rd (k := 0) rfl) rfl rfl (wantF_none rfl) Try.underlying29 (Try.ty5.s) rfl rfl (by omega) (by omega) ?_
                intro p17 hc18
                refine TF.load (v := (.int .u8 _)) rfl rfl (wantF_none rfl) Try.underlying5 rfl rfl hc18 ?_
                refine TF.u (v := (.int .i64 _)) rfl rfl (pr_move rfl) ?_
                refine TF.u (v := (.int .i64 _)) rfl rfl (pr_move rfl) ?_
                refine TF.u (v := (.int .i64 _)) rfl rfl (pr_add rfl rfl (IntWalk.i64_in _ (by omega))) ?_
                refine TF.u (v := (.int .i64 _)) rfl rfl (pr_rem rfl rfl (by omega) (show _ = (((1024 + k + i) % 8 : Nat) : Int) by have h_ : ((k : Int) + (i : Int)).tmod 8 = (((k + i) % 8 : Nat) : Int) := rfl; rw [h_]; omega)) ?_
                refine TF.u (v := (.int .u64 _)) rfl rfl (pr_conv Try.underlying3 Try.underlying49 rfl (IntWalk.u64_in _ (by omega))) ?_
                refine TF.u (v := (.int .u8 _)) rfl rfl (pr_shl rfl rfl (by omega) (shl8 (by omega))) ?_
                refine TF.u (v := (.int .u8 _)) rfl rfl (pr_xor rfl rfl (x8 _ _)) ?_
                obtain ⟨g21, rfl⟩ := H.ownSome (k := 0) rfl (by omega)
                refine TF.u (v := (.pointer (some ⟨g21, _, none⟩))) rfl rfl (pr_idxO (b := g21) (o' := _) Try.underlying29 (Try.ty5.s) rfl rfl (by omega) (by omega) (Nat.mul_one _)) ?_
                refine TF.storeO (v := (u8 _)) (q := 0) H rfl rfl rfl (wantF_none rfl) (Try.ty5.s) rfl rfl rfl (by simp; omega) ?_
                clear H
                intro w ho22 H
                replace H : Sat _ _ _ [_] := H
                rw [u8s_set] at H
                refine TF.nil (nx_block (nx_then ?_))
                -- region 14 law.go:117
                refine cw_region (clf [.U, .U, .U]) [0, 1, 2] rfl (by kernel_rfl) (by decide) ?_
                refine TF.u (v := (.int .i64 _)) rfl rfl (pr_move rfl) ?_
                refine TF.u (v := (.int .i64 _)) rfl rfl (pr_add rfl rfl (IntWalk.i64_in _ (by omega))) ?_
                refine TF.u (v := (.int .i64 _)) rfl rfl (pr_assign rfl) ?_
                refine TF.nil (nx_loop (m' := 32 - (i + 1)) (by omega) ?_)
                exact ⟨_, i + 1, _, rfl, (cutS (cutS (cutS (cutS (cutS (cutS (cutS rfl rfl) rfl) rfl) rfl) rfl) rfl) rfl), H, by omega, by simpa using hx1, fun j hj => by rw [flip_bit (q := 1024 + k + i) (by omega) (by omega), hx2 j hj, wn_T hbit, Bool.xor_assoc]⟩
              ·
                have hp16 := dF hq16
                refine cw_skip (nx_block (nx_then ?_))
                -- region 14 law.go:117
                refine cw_region (clf [.U, .U, .U]) [0, 1, 2] rfl (by kernel_rfl) (by decide) ?_
                refine TF.u (v := (.int .i64 _)) rfl rfl (pr_move rfl) ?_
                refine TF.u (v := (.int .i64 _)) rfl rfl (pr_add rfl rfl (IntWalk.i64_in _ (by omega))) ?_
                refine TF.u (v := (.int .i64 _)) rfl rfl (pr_assign rfl) ?_
                refine TF.nil (nx_loop (m' := 32 - (i + 1)) (by omega) ?_)
                exact ⟨_, i + 1, _, rfl, (cutS (cutS (cutS (cutS (cutS (cutS (cutS rfl rfl) rfl) rfl) rfl) rfl) rfl) rfl), H, by omega, hx1, fun j hj => by rw [hx2 j hj, wn_F (i := i) (t := turn) (shr_low.symm.trans (low_F (by assumption)))]⟩
            ·
              have hp14 := dF hq14
              refine cw_exit (ex_then (ex_then (ex_here (nx_then ?_))))
              refine cw_seq ?_
              -- region 17 law.go:122
              refine cw_region (clf [.U, .U, .X, .U, .U, .U, .X, .X, .U]) [0, 1, 2, 3, 4, 5, 6, 7, 8] rfl (by kernel_rfl) (by decide) ?_
              obtain rfl : i = 32 := by omega
              refine TF.u (v := (.int .i64 _)) rfl rfl (pr_move rfl) ?_
              refine TF.u (v := (.slice _ _ _)) rfl rfl (pr_move rfl) ?_
              refine TF.call (args := [(.int .i64 _), (.slice _ _ _)]) Try.fn15 rfl rfl (wantF_none rfl) rfl (decode_ok _ _ _ _ _ _ (H.rd (k := 0) rfl) (by omega) (by omega) (by omega)) ?_
              rintro e_ w ⟨rfl, hb23⟩
              refine ⟨_, rfl, ?_⟩
              replace H := H.below hb23
              refine TF.u (v := (.tuple _)) rfl rfl (pr_move rfl) ?_
              refine TF.u (v := (.agg ⟨pgV ((decS id xs).1)⟩)) rfl rfl (pr_extract (vs := _) rfl rfl) ?_
              refine TF.u (v := (.int .i64 _)) rfl rfl (pr_extract (vs := _) rfl rfl) ?_
              refine TF.alloc H rfl (Cx.xx rfl) (wantF_none rfl) (Try.ty27) rfl ?_
              clear H
              intro bk24 w hltbk24 hb25 H
              replace H : Sat _ _ _ (cBlk _ _ (pgV noPg) :: _) := H
              replace H : Sat _ _ _ [_, _] := H
              refine TF.storeN (q := 0) (cs' := pgV ((decS id xs).1)) H rfl rfl rfl (wantF_none rfl) (Try.ty27.s) rfl rfl (pgV_len (decS_ok id xs).len) (pgV_one _) (by have h_ : (pgV noPg).length = 17 := (pgV_len noPg_ok.len); omega) (store_all (pgV_len noPg_ok.len)) ?_
              clear H
              intro w ho26 H
              replace H : Sat _ _ _ [_, _] := H
              refine TF.u (v := (.int .i64 _)) rfl rfl (pr_assign rfl) ?_
              refine TF.nil (nx_then ?_)
              refine cw_seq ?_
              refine cw_seq ?_
              -- region 18 law.go:123
              refine cw_region (clf [.U]) [0] rfl (by kernel_rfl) (by decide) ?_
              refine TF.u (v := (.bool _)) rfl rfl (pr_move rfl) ?_
              refine TF.nil (nx_then ?_)
              refine cw_condT (t := _) rfl rfl hq11 ?_
              refine cw_seq ?_
              -- region 19 law.go:124
              refine cw_region (clf [.U, .U, .U]) [0, 1, 2] rfl (by kernel_rfl) (by decide) ?_
              refine TF.u (v := (.int .i64 _)) rfl rfl (pr_move rfl) ?_
              refine TF.u (v := (.bool _)) rfl rfl (pr_eql rfl rfl) ?_
              refine TF.u (v := (.bool _)) rfl rfl (pr_assign rfl) ?_
              refine TF.nil (nx_then ?_)
              refine cw_ret (rt_then (fin1 (v := (.bool _)) Try.results9 rfl rfl ?_))
              exact ⟨by rw [turned_stamp hnum ok_p.len hr hx1 (toNat_ne (b := 0#32) (by assumption)) hx2 (by omega)]; simp, H.base⟩
        ·
          have hp12 := hq12
          refine cw_skip (nx_then ?_)
          refine cw_seq ?_
          -- region 11 law.go:116
          refine cw_region (clf [.U, .U, .U, .U, .U, .U]) [0, 1, 2, 3, 4, 5] rfl (by kernel_rfl) (by decide) ?_
          have hkm := Nat.mod_lt at_ (show 0 < 33 by omega)
          refine TF.u (v := (.int .u64 _)) rfl rfl (pr_move rfl) ?_
          refine TF.u (v := (.int .u64 _)) rfl rfl (pr_move rfl) ?_
          refine TF.u (v := (.int .u64 _)) rfl rfl (pr_sub rfl rfl (show _ = ((33 : Nat) : Int) from rfl)) ?_
          refine TF.u (v := (.int .u64 _)) rfl rfl (pr_rem rfl rfl (by omega) (Int.ofNat_tmod _ _).symm) ?_
          refine TF.u (v := (.int .i64 _)) rfl rfl (pr_conv Try.underlying49 Try.underlying3 rfl (show _ = ((at_ % 33 : Nat) : Int) from IntWalk.i64_in _ (by omega))) ?_
          refine TF.u (v := (.int .i64 _)) rfl rfl (pr_assign rfl) ?_
          generalize at_ % 33 = k at hkm ⊢
          refine TF.nil (nx_then ?_)
          refine cw_seq ?_
          refine cw_seq ?_
          -- region 12 law.go:117
          refine cw_region (clf [.U]) [0] rfl (by kernel_rfl) (by decide) ?_
          refine TF.u (v := (.int .i64 _)) rfl rfl (pr_assign rfl) ?_
          refine TF.nil (nx_then ?_)
          refine cw_block ?_
          refine cw_loop (fun m f w => ∃ (g_ : Nat → Value) (i : Nat) (xs : List UInt8), m = 32 - i ∧ f = (upd (upd (upd (upd (upd (upd (upd g_ 0 (.int .i64 id)) 3 (.bool stamp)) 5 (.int .u32 ((turn.toNat : Nat) : Int))) 13 (.slice A7 n7 c7)) 15 (.int .i64 (0 : Int))) 17 (.int .i64 (k : Int))) 18 (.int .i64 (i : Int))) ∧ Sat [] w0 w [cOwnB 5 A7 n7 c7 xs] ∧ (i ≤ 32) ∧ (xs.length = 256) ∧ (∀ j, j < 2048 → bitAt xs j = (bitAt (imageS id.toNat p) j ^^ wn (0 + k) i turn j))) (32 - 0) ?_ ?_
          ·
            exact ⟨_, 0, _, rfl, (cutS (cutS (cutS (cutS (cutS (cutS (cutS rfl rfl) rfl) rfl) rfl) rfl) rfl) rfl), (H.del 1), Nat.zero_le _, him, fun j hj => by rw [wn_0, Bool.xor_false]⟩
          ·
            clear H
            rintro m_ f_ w ⟨g_, i, xs, rfl, rfl, H, hi, hx1, hx2⟩
            refine cw_seq ?_
            refine cw_seq ?_
            -- region 13 law.go:117
            refine cw_region (clf [.U, .U]) [0, 1] rfl (by kernel_rfl) (by decide) ?_
            refine TF.u (v := (.int .i64 _)) rfl rfl (pr_move rfl) ?_
            refine TF.u (v := (.bool _)) rfl rfl (pr_lss rfl rfl) ?_
            refine TF.nil (nx_then ?_)
            refine cw_cond _ rfl rfl (fun hq29 => ?_) (fun hq29 => ?_)
            ·
              have hp29 := dT hq29
              refine cw_skip (nx_then ?_)
              refine cw_seq ?_
              refine cw_block ?_
              refine cw_seq ?_
              -- region 15 law.go:118
              refine cw_region (clf [.U, .U, .U, .U, .U, .U]) [0, 1, 2, 3, 4, 5] rfl (by kernel_rfl) (by decide) ?_
              refine TF.u (v := (.int .u32 _)) rfl rfl (pr_move rfl) ?_
              refine TF.u (v := (.int .i64 _)) rfl rfl (pr_move rfl) ?_
              refine TF.u (v := (.int .u64 _)) rfl rfl (pr_conv Try.underlying3 Try.underlying49 rfl (IntWalk.u64_in _ (by omega))) ?_
              refine TF.u (v := (.int .u32 _)) rfl rfl (pr_shr rfl rfl (by omega) (shr32 _ i (by omega))) ?_
              refine TF.u (v := (.int .u32 _)) rfl rfl (pr_and rfl rfl (a32 _)) ?_
              refine TF.u (v := (.bool _)) rfl rfl (pr_eql rfl rfl) ?_
              refine TF.nil (nx_then ?_)
              refine cw_cond _ rfl rfl (fun hq31 => ?_) (fun hq31 => ?_)
              ·
                have hp31 := dT hq31
                -- region 16 law.go:119
                refine cw_region (clf [.U, .U, .U, .U, .U, .U, .U, .U, .X, .U, .U, .U, .U, .U, .U, .U, .U, .X]) [0, 1, 2, 3, 4, 5, 6, 7, 8, 9, 10, 11, 12, 13, 14, 15, 16, 17] rfl (by kernel_rfl) (by decide) ?_
                have hbit := shr_low.symm.trans (low_T (by assumption))
                refine TF.u (v := (.slice _ _ _)) rfl rfl (pr_move rfl) ?_
                refine TF.u (v := (.int .i64 _)) rfl rfl (pr_move rfl) ?_
                refine TF.u (v := (.int .i64 _)) rfl rfl (pr_move rfl) ?_
                refine TF.u (v := (.int .i64 _)) rfl rfl (pr_move rfl) ?_
                refine TF.u (v := (.int .i64 _)) rfl rfl (pr_add rfl rfl (IntWalk.i64_in _ (by omega))) ?_
                refine TF.u (v := (.int .i64 _)) rfl rfl (pr_quo rfl rfl (by omega) (show _ = (((k + i) / 8 : Nat) : Int) from IntWalk.i64_in _ (by have : (((k : Int) + (i : Int)).tdiv 8) = (((k + i) / 8 : Nat) : Int) := rfl; omega))) ?_
                refine TF.u (v := (.int .i64 _)) rfl rfl (pr_add rfl rfl (show _ = ((0 + (k + i) / 8 : Nat) : Int) from (IntWalk.i64_in _ (by omega)).trans (by omega))) ?_
                refine TF.idxB (H.rd (k := 0) rfl) rfl rfl (wantF_none rfl) Try.underlying29 (Try.ty5.s) rfl rfl (by omega) (by omega) ?_
                intro p32 hc33
                refine TF.load (v := (.int .u8 _)) rfl rfl (wantF_none rfl) Try.underlying5 rfl rfl hc33 ?_
                refine TF.u (v := (.int .i64 _)) rfl rfl (pr_move rfl) ?_
                refine TF.u (v := (.int .i64 _)) rfl rfl (pr_move rfl) ?_
                refine TF.u (v := (.int .i64 _)) rfl rfl (pr_add rfl rfl (IntWalk.i64_in _ (by omega))) ?_
                refine TF.u (v := (.int .i64 _)) rfl rfl (pr_rem rfl rfl (by omega) (show _ = (((0 + k + i) % 8 : Nat) : Int) by have h_ : ((k : Int) + (i : Int)).tmod 8 = (((k + i) % 8 : Nat) : Int) := rfl; rw [h_]; omega)) ?_
                refine TF.u (v := (.int .u64 _)) rfl rfl (pr_conv Try.underlying3 Try.underlying49 rfl (IntWalk.u64_in _ (by omega))) ?_
                refine TF.u (v := (.int .u8 _)) rfl rfl (pr_shl rfl rfl (by omega) (shl8 (by omega))) ?_
                refine TF.u (v := (.int .u8 _)) rfl rfl (pr_xor rfl rfl (x8 _ _)) ?_
                obtain ⟨g36, rfl⟩ := H.ownSome (k := 0) rfl (by omega)
                refine TF.u (v := (.pointer (some ⟨g36, _, none⟩))) rfl rfl (pr_idxO (b := g36) (o' := _) Try.underlying29 (Try.ty5.s) rfl rfl (by omega) (by omega) (Nat.mul_one _)) ?_
                refine TF.storeO (v := (u8 _)) (q := 0) H rfl rfl rfl (wantF_none rfl) (Try.ty5.s) rfl rfl rfl (by simp; omega) ?_
                clear H
                intro w ho37 H
                replace H : Sat _ _ _ [_] := H
                rw [u8s_set] at H
                refine TF.nil (nx_block (nx_then ?_))
                -- region 14 law.go:117
                refine cw_region (clf [.U, .U, .U]) [0, 1, 2] rfl (by kernel_rfl) (by decide) ?_
                refine TF.u (v := (.int .i64 _)) rfl rfl (pr_move rfl) ?_
                refine TF.u (v := (.int .i64 _)) rfl rfl (pr_add rfl rfl (IntWalk.i64_in _ (by omega))) ?_
                refine TF.u (v := (.int .i64 _)) rfl rfl (pr_assign rfl) ?_
                refine TF.nil (nx_loop (m' := 32 - (i + 1)) (by omega) ?_)
                exact ⟨_, i + 1, _, rfl, (cutS (cutS (cutS (cutS (cutS (cutS (cutS rfl rfl) rfl) rfl) rfl) rfl) rfl) rfl), H, by omega, by simpa using hx1, fun j hj => by rw [flip_bit (q := 0 + k + i) (by omega) (by omega), hx2 j hj, wn_T hbit, Bool.xor_assoc]⟩
              ·
                have hp31 := dF hq31
                refine cw_skip (nx_block (nx_then ?_))
                -- region 14 law.go:117
                refine cw_region (clf [.U, .U, .U]) [0, 1, 2] rfl (by kernel_rfl) (by decide) ?_
                refine TF.u (v := (.int .i64 _)) rfl rfl (pr_move rfl) ?_
                refine TF.u (v := (.int .i64 _)) rfl rfl (pr_add rfl rfl (IntWalk.i64_in _ (by omega))) ?_
                refine TF.u (v := (.int .i64 _)) rfl rfl (pr_assign rfl) ?_
                refine TF.nil (nx_loop (m' := 32 - (i + 1)) (by omega) ?_)
                exact ⟨_, i + 1, _, rfl, (cutS (cutS (cutS (cutS (cutS (cutS (cutS rfl rfl) rfl) rfl) rfl) rfl) rfl) rfl), H, by omega, hx1, fun j hj => by rw [hx2 j hj, wn_F (i := i) (t := turn) (shr_low.symm.trans (low_F (by assumption)))]⟩
            ·
              have hp29 := dF hq29
              refine cw_exit (ex_then (ex_then (ex_here (nx_then ?_))))
              refine cw_seq ?_
              -- region 17 law.go:122
              refine cw_region (clf [.U, .U, .X, .U, .U, .U, .X, .X, .U]) [0, 1, 2, 3, 4, 5, 6, 7, 8] rfl (by kernel_rfl) (by decide) ?_
              obtain rfl : i = 32 := by omega
              refine TF.u (v := (.int .i64 _)) rfl rfl (pr_move rfl) ?_
              refine TF.u (v := (.slice _ _ _)) rfl rfl (pr_move rfl) ?_
              refine TF.call (args := [(.int .i64 _), (.slice _ _ _)]) Try.fn15 rfl rfl (wantF_none rfl) rfl (decode_ok _ _ _ _ _ _ (H.rd (k := 0) rfl) (by omega) (by omega) (by omega)) ?_
              rintro e_ w ⟨rfl, hb38⟩
              refine ⟨_, rfl, ?_⟩
              replace H := H.below hb38
              refine TF.u (v := (.tuple _)) rfl rfl (pr_move rfl) ?_
              refine TF.u (v := (.agg ⟨pgV ((decS id xs).1)⟩)) rfl rfl (pr_extract (vs := _) rfl rfl) ?_
              refine TF.u (v := (.int .i64 _)) rfl rfl (pr_extract (vs := _) rfl rfl) ?_
              refine TF.alloc H rfl (Cx.xx rfl) (wantF_none rfl) (Try.ty27) rfl ?_
              clear H
              intro bk39 w hltbk39 hb40 H
              replace H : Sat _ _ _ (cBlk _ _ (pgV noPg) :: _) := H
              replace H : Sat _ _ _ [_, _] := H
              refine TF.storeN (q := 0) (cs' := pgV ((decS id xs).1)) H rfl rfl rfl (wantF_none rfl) (Try.ty27.s) rfl rfl (pgV_len (decS_ok id xs).len) (pgV_one _) (by have h_ : (pgV noPg).length = 17 := (pgV_len noPg_ok.len); omega) (store_all (pgV_len noPg_ok.len)) ?_
              clear H
              intro w ho41 H
              replace H : Sat _ _ _ [_, _] := H
              refine TF.u (v := (.int .i64 _)) rfl rfl (pr_assign rfl) ?_
              refine TF.nil (nx_then ?_)
              refine cw_seq ?_
              refine cw_seq ?_
              -- region 18 law.go:123
              refine cw_region (clf [.U]) [0] rfl (by kernel_rfl) (by decide) ?_
              refine TF.u (v := (.bool _)) rfl rfl (pr_move rfl) ?_
              refine TF.nil (nx_then ?_)
              refine cw_condT (t := _) rfl rfl hq11 ?_
              refine cw_seq ?_
              -- region 19 law.go:124
              refine cw_region (clf [.U, .U, .U]) [0, 1, 2] rfl (by kernel_rfl) (by decide) ?_
              refine TF.u (v := (.int .i64 _)) rfl rfl (pr_move rfl) ?_
              refine TF.u (v := (.bool _)) rfl rfl (pr_eql rfl rfl) ?_
              refine TF.u (v := (.bool _)) rfl rfl (pr_assign rfl) ?_
              refine TF.nil (nx_then ?_)
              refine cw_ret (rt_then (fin1 (v := (.bool _)) Try.results9 rfl rfl ?_))
              exact ⟨by rw [turned_stamp hnum ok_p.len hr hx1 (toNat_ne (b := 0#32) (by assumption)) hx2 (by omega)]; simp, H.base⟩
      ·
        have hp11 := hq11
        refine cw_skip (nx_then ?_)
        refine cw_seq ?_
        refine cw_seq ?_
        -- region 9 law.go:113
        refine cw_region (clf [.U]) [0] rfl (by kernel_rfl) (by decide) ?_
        refine TF.u (v := (.bool _)) rfl rfl (pr_move rfl) ?_
        refine TF.nil (nx_then ?_)
        refine cw_cond _ rfl rfl (fun hq43 => ?_) (fun hq43 => ?_)
        ·
          have hp43 := hq43
          -- region 10 law.go:114
          refine cw_region (clf [.U, .U, .U]) [0, 1, 2] rfl (by kernel_rfl) (by decide) ?_
          refine TF.u (v := (.int .i64 _)) rfl rfl (pr_move rfl) ?_
          refine TF.u (v := (.int .i64 _)) rfl rfl (pr_add rfl rfl (IntWalk.i64_in _ (by omega))) ?_
          refine TF.u (v := (.int .i64 _)) rfl rfl (pr_assign rfl) ?_
          refine TF.nil (nx_then ?_)
          refine cw_seq ?_
          -- region 11 law.go:116
          refine cw_region (clf [.U, .U, .U, .U, .U, .U]) [0, 1, 2, 3, 4, 5] rfl (by kernel_rfl) (by decide) ?_
          have hkm := Nat.mod_lt at_ (show 0 < 929 by omega)
          refine TF.u (v := (.int .u64 _)) rfl rfl (pr_move rfl) ?_
          refine TF.u (v := (.int .u64 _)) rfl rfl (pr_move rfl) ?_
          refine TF.u (v := (.int .u64 _)) rfl rfl (pr_sub rfl rfl (show _ = ((929 : Nat) : Int) from rfl)) ?_
          refine TF.u (v := (.int .u64 _)) rfl rfl (pr_rem rfl rfl (by omega) (Int.ofNat_tmod _ _).symm) ?_
          refine TF.u (v := (.int .i64 _)) rfl rfl (pr_conv Try.underlying49 Try.underlying3 rfl (show _ = ((at_ % 929 : Nat) : Int) from IntWalk.i64_in _ (by omega))) ?_
          refine TF.u (v := (.int .i64 _)) rfl rfl (pr_assign rfl) ?_
          generalize at_ % 929 = k at hkm ⊢
          refine TF.nil (nx_then ?_)
          refine cw_seq ?_
          refine cw_seq ?_
          -- region 12 law.go:117
          refine cw_region (clf [.U]) [0] rfl (by kernel_rfl) (by decide) ?_
          refine TF.u (v := (.int .i64 _)) rfl rfl (pr_assign rfl) ?_
          refine TF.nil (nx_then ?_)
          refine cw_block ?_
          refine cw_loop (fun m f w => ∃ (g_ : Nat → Value) (i : Nat) (xs : List UInt8), m = 32 - i ∧ f = (upd (upd (upd (upd (upd (upd (upd g_ 0 (.int .i64 id)) 3 (.bool stamp)) 5 (.int .u32 ((turn.toNat : Nat) : Int))) 13 (.slice A7 n7 c7)) 15 (.int .i64 (136 : Int))) 17 (.int .i64 (k : Int))) 18 (.int .i64 (i : Int))) ∧ Sat [] w0 w [cOwnB 5 A7 n7 c7 xs] ∧ (i ≤ 32) ∧ (xs.length = 256) ∧ (∀ j, j < 2048 → bitAt xs j = (bitAt (imageS id.toNat p) j ^^ wn (1088 + k) i turn j))) (32 - 0) ?_ ?_
          ·
            exact ⟨_, 0, _, rfl, (cutS (cutS (cutS (cutS (cutS (cutS (cutS rfl rfl) rfl) rfl) rfl) rfl) rfl) rfl), (H.del 1), Nat.zero_le _, him, fun j hj => by rw [wn_0, Bool.xor_false]⟩
          ·
            clear H
            rintro m_ f_ w ⟨g_, i, xs, rfl, rfl, H, hi, hx1, hx2⟩
            refine cw_seq ?_
            refine cw_seq ?_
            -- region 13 law.go:117
            refine cw_region (clf [.U, .U]) [0, 1] rfl (by kernel_rfl) (by decide) ?_
            refine TF.u (v := (.int .i64 _)) rfl rfl (pr_move rfl) ?_
            refine TF.u (v := (.bool _)) rfl rfl (pr_lss rfl rfl) ?_
            refine TF.nil (nx_then ?_)
            refine cw_cond _ rfl rfl (fun hq45 => ?_) (fun hq45 => ?_)
            ·
              have hp45 := dT hq45
              refine cw_skip (nx_then ?_)
              refine cw_seq ?_
              refine cw_block ?_
              refine cw_seq ?_
              -- region 15 law.go:118
              refine cw_region (clf [.U, .U, .U, .U, .U, .U]) [0, 1, 2, 3, 4, 5] rfl (by kernel_rfl) (by decide) ?_
              refine TF.u (v := (.int .u32 _)) rfl rfl (pr_move rfl) ?_
              refine TF.u (v := (.int .i64 _)) rfl rfl (pr_move rfl) ?_
              refine TF.u (v := (.int .u64 _)) rfl rfl (pr_conv Try.underlying3 Try.underlying49 rfl (IntWalk.u64_in _ (by omega))) ?_
              refine TF.u (v := (.int .u32 _)) rfl rfl (pr_shr rfl rfl (by omega) (shr32 _ i (by omega))) ?_
              refine TF.u (v := (.int .u32 _)) rfl rfl (pr_and rfl rfl (a32 _)) ?_
              refine TF.u (v := (.bool _)) rfl rfl (pr_eql rfl rfl) ?_
              refine TF.nil (nx_then ?_)
              refine cw_cond _ rfl rfl (fun hq47 => ?_) (fun hq47 => ?_)
              ·
                have hp47 := dT hq47
                -- region 16 law.go:119
                refine cw_region (clf [.U, .U, .U, .U, .U, .U, .U, .U, .X, .U, .U, .U, .U, .U, .U, .U, .U, .X]) [0, 1, 2, 3, 4, 5, 6, 7, 8, 9, 10, 11, 12, 13, 14, 15, 16, 17] rfl (by kernel_rfl) (by decide) ?_
                have hbit := shr_low.symm.trans (low_T (by assumption))
                refine TF.u (v := (.slice _ _ _)) rfl rfl (pr_move rfl) ?_
                refine TF.u (v := (.int .i64 _)) rfl rfl (pr_move rfl) ?_
                refine TF.u (v := (.int .i64 _)) rfl rfl (pr_move rfl) ?_
                refine TF.u (v := (.int .i64 _)) rfl rfl (pr_move rfl) ?_
                refine TF.u (v := (.int .i64 _)) rfl rfl (pr_add rfl rfl (IntWalk.i64_in _ (by omega))) ?_
                refine TF.u (v := (.int .i64 _)) rfl rfl (pr_quo rfl rfl (by omega) (show _ = (((k + i) / 8 : Nat) : Int) from IntWalk.i64_in _ (by have : (((k : Int) + (i : Int)).tdiv 8) = (((k + i) / 8 : Nat) : Int) := rfl; omega))) ?_
                refine TF.u (v := (.int .i64 _)) rfl rfl (pr_add rfl rfl (show _ = ((136 + (k + i) / 8 : Nat) : Int) from (IntWalk.i64_in _ (by omega)).trans (by omega))) ?_
                refine TF.idxB (H.rd (k := 0) rfl) rfl rfl (wantF_none rfl) Try.underlying29 (Try.ty5.s) rfl rfl (by omega) (by omega) ?_
                intro p48 hc49
                refine TF.load (v := (.int .u8 _)) rfl rfl (wantF_none rfl) Try.underlying5 rfl rfl hc49 ?_
                refine TF.u (v := (.int .i64 _)) rfl rfl (pr_move rfl) ?_
                refine TF.u (v := (.int .i64 _)) rfl rfl (pr_move rfl) ?_
                refine TF.u (v := (.int .i64 _)) rfl rfl (pr_add rfl rfl (IntWalk.i64_in _ (by omega))) ?_
                refine TF.u (v := (.int .i64 _)) rfl rfl (pr_rem rfl rfl (by omega) (show _ = (((1088 + k + i) % 8 : Nat) : Int) by have h_ : ((k : Int) + (i : Int)).tmod 8 = (((k + i) % 8 : Nat) : Int) := rfl; rw [h_]; omega)) ?_
                refine TF.u (v := (.int .u64 _)) rfl rfl (pr_conv Try.underlying3 Try.underlying49 rfl (IntWalk.u64_in _ (by omega))) ?_
                refine TF.u (v := (.int .u8 _)) rfl rfl (pr_shl rfl rfl (by omega) (shl8 (by omega))) ?_
                refine TF.u (v := (.int .u8 _)) rfl rfl (pr_xor rfl rfl (x8 _ _)) ?_
                obtain ⟨g52, rfl⟩ := H.ownSome (k := 0) rfl (by omega)
                refine TF.u (v := (.pointer (some ⟨g52, _, none⟩))) rfl rfl (pr_idxO (b := g52) (o' := _) Try.underlying29 (Try.ty5.s) rfl rfl (by omega) (by omega) (Nat.mul_one _)) ?_
                refine TF.storeO (v := (u8 _)) (q := 0) H rfl rfl rfl (wantF_none rfl) (Try.ty5.s) rfl rfl rfl (by simp; omega) ?_
                clear H
                intro w ho53 H
                replace H : Sat _ _ _ [_] := H
                rw [u8s_set] at H
                refine TF.nil (nx_block (nx_then ?_))
                -- region 14 law.go:117
                refine cw_region (clf [.U, .U, .U]) [0, 1, 2] rfl (by kernel_rfl) (by decide) ?_
                refine TF.u (v := (.int .i64 _)) rfl rfl (pr_move rfl) ?_
                refine TF.u (v := (.int .i64 _)) rfl rfl (pr_add rfl rfl (IntWalk.i64_in _ (by omega))) ?_
                refine TF.u (v := (.int .i64 _)) rfl rfl (pr_assign rfl) ?_
                refine TF.nil (nx_loop (m' := 32 - (i + 1)) (by omega) ?_)
                exact ⟨_, i + 1, _, rfl, (cutS (cutS (cutS (cutS (cutS (cutS (cutS rfl rfl) rfl) rfl) rfl) rfl) rfl) rfl), H, by omega, by simpa using hx1, fun j hj => by rw [flip_bit (q := 1088 + k + i) (by omega) (by omega), hx2 j hj, wn_T hbit, Bool.xor_assoc]⟩
              ·
                have hp47 := dF hq47
                refine cw_skip (nx_block (nx_then ?_))
                -- region 14 law.go:117
                refine cw_region (clf [.U, .U, .U]) [0, 1, 2] rfl (by kernel_rfl) (by decide) ?_
                refine TF.u (v := (.int .i64 _)) rfl rfl (pr_move rfl) ?_
                refine TF.u (v := (.int .i64 _)) rfl rfl (pr_add rfl rfl (IntWalk.i64_in _ (by omega))) ?_
                refine TF.u (v := (.int .i64 _)) rfl rfl (pr_assign rfl) ?_
                refine TF.nil (nx_loop (m' := 32 - (i + 1)) (by omega) ?_)
                exact ⟨_, i + 1, _, rfl, (cutS (cutS (cutS (cutS (cutS (cutS (cutS rfl rfl) rfl) rfl) rfl) rfl) rfl) rfl), H, by omega, hx1, fun j hj => by rw [hx2 j hj, wn_F (i := i) (t := turn) (shr_low.symm.trans (low_F (by assumption)))]⟩
            ·
              have hp45 := dF hq45
              refine cw_exit (ex_then (ex_then (ex_here (nx_then ?_))))
              refine cw_seq ?_
              -- region 17 law.go:122
              refine cw_region (clf [.U, .U, .X, .U, .U, .U, .X, .X, .U]) [0, 1, 2, 3, 4, 5, 6, 7, 8] rfl (by kernel_rfl) (by decide) ?_
              obtain rfl : i = 32 := by omega
              refine TF.u (v := (.int .i64 _)) rfl rfl (pr_move rfl) ?_
              refine TF.u (v := (.slice _ _ _)) rfl rfl (pr_move rfl) ?_
              refine TF.call (args := [(.int .i64 _), (.slice _ _ _)]) Try.fn15 rfl rfl (wantF_none rfl) rfl (decode_ok _ _ _ _ _ _ (H.rd (k := 0) rfl) (by omega) (by omega) (by omega)) ?_
              rintro e_ w ⟨rfl, hb54⟩
              refine ⟨_, rfl, ?_⟩
              replace H := H.below hb54
              refine TF.u (v := (.tuple _)) rfl rfl (pr_move rfl) ?_
              refine TF.u (v := (.agg ⟨pgV ((decS id xs).1)⟩)) rfl rfl (pr_extract (vs := _) rfl rfl) ?_
              refine TF.u (v := (.int .i64 _)) rfl rfl (pr_extract (vs := _) rfl rfl) ?_
              refine TF.alloc H rfl (Cx.xx rfl) (wantF_none rfl) (Try.ty27) rfl ?_
              clear H
              intro bk55 w hltbk55 hb56 H
              replace H : Sat _ _ _ (cBlk _ _ (pgV noPg) :: _) := H
              replace H : Sat _ _ _ [_, _] := H
              refine TF.storeN (q := 0) (cs' := pgV ((decS id xs).1)) H rfl rfl rfl (wantF_none rfl) (Try.ty27.s) rfl rfl (pgV_len (decS_ok id xs).len) (pgV_one _) (by have h_ : (pgV noPg).length = 17 := (pgV_len noPg_ok.len); omega) (store_all (pgV_len noPg_ok.len)) ?_
              clear H
              intro w ho57 H
              replace H : Sat _ _ _ [_, _] := H
              refine TF.u (v := (.int .i64 _)) rfl rfl (pr_assign rfl) ?_
              refine TF.nil (nx_then ?_)
              refine cw_seq ?_
              refine cw_seq ?_
              -- region 18 law.go:123
              refine cw_region (clf [.U]) [0] rfl (by kernel_rfl) (by decide) ?_
              refine TF.u (v := (.bool _)) rfl rfl (pr_move rfl) ?_
              refine TF.nil (nx_then ?_)
              refine cw_condF (t := _) rfl rfl hq11 ?_
              refine cw_skip (nx_then ?_)
              refine cw_seq ?_
              -- region 20 law.go:126
              refine cw_region (clf [.U, .U, .U]) [0, 1, 2] rfl (by kernel_rfl) (by decide) ?_
              refine TF.u (v := (.int .i64 _)) rfl rfl (pr_move rfl) ?_
              refine TF.u (v := (.bool _)) rfl rfl (pr_eql rfl rfl) ?_
              refine TF.u (v := (.bool _)) rfl rfl (pr_assign rfl) ?_
              refine TF.nil (nx_then ?_)
              refine cw_ret (fin1 (v := (.bool _)) Try.results9 rfl rfl ?_)
              exact ⟨by rw [turned_tale hnum ok_p.len hr hx1 (toNat_ne (b := 0#32) (by assumption)) hx2 (by omega)]; simp, H.base⟩
        ·
          have hp43 := hq43
          refine cw_skip (nx_then ?_)
          refine cw_seq ?_
          -- region 11 law.go:116
          refine cw_region (clf [.U, .U, .U, .U, .U, .U]) [0, 1, 2, 3, 4, 5] rfl (by kernel_rfl) (by decide) ?_
          have hkm := Nat.mod_lt at_ (show 0 < 929 by omega)
          refine TF.u (v := (.int .u64 _)) rfl rfl (pr_move rfl) ?_
          refine TF.u (v := (.int .u64 _)) rfl rfl (pr_move rfl) ?_
          refine TF.u (v := (.int .u64 _)) rfl rfl (pr_sub rfl rfl (show _ = ((929 : Nat) : Int) from rfl)) ?_
          refine TF.u (v := (.int .u64 _)) rfl rfl (pr_rem rfl rfl (by omega) (Int.ofNat_tmod _ _).symm) ?_
          refine TF.u (v := (.int .i64 _)) rfl rfl (pr_conv Try.underlying49 Try.underlying3 rfl (show _ = ((at_ % 929 : Nat) : Int) from IntWalk.i64_in _ (by omega))) ?_
          refine TF.u (v := (.int .i64 _)) rfl rfl (pr_assign rfl) ?_
          generalize at_ % 929 = k at hkm ⊢
          refine TF.nil (nx_then ?_)
          refine cw_seq ?_
          refine cw_seq ?_
          -- region 12 law.go:117
          refine cw_region (clf [.U]) [0] rfl (by kernel_rfl) (by decide) ?_
          refine TF.u (v := (.int .i64 _)) rfl rfl (pr_assign rfl) ?_
          refine TF.nil (nx_then ?_)
          refine cw_block ?_
          refine cw_loop (fun m f w => ∃ (g_ : Nat → Value) (i : Nat) (xs : List UInt8), m = 32 - i ∧ f = (upd (upd (upd (upd (upd (upd (upd g_ 0 (.int .i64 id)) 3 (.bool stamp)) 5 (.int .u32 ((turn.toNat : Nat) : Int))) 13 (.slice A7 n7 c7)) 15 (.int .i64 (8 : Int))) 17 (.int .i64 (k : Int))) 18 (.int .i64 (i : Int))) ∧ Sat [] w0 w [cOwnB 5 A7 n7 c7 xs] ∧ (i ≤ 32) ∧ (xs.length = 256) ∧ (∀ j, j < 2048 → bitAt xs j = (bitAt (imageS id.toNat p) j ^^ wn (64 + k) i turn j))) (32 - 0) ?_ ?_
          ·
            exact ⟨_, 0, _, rfl, (cutS (cutS (cutS (cutS (cutS (cutS (cutS rfl rfl) rfl) rfl) rfl) rfl) rfl) rfl), (H.del 1), Nat.zero_le _, him, fun j hj => by rw [wn_0, Bool.xor_false]⟩
          ·
            clear H
            rintro m_ f_ w ⟨g_, i, xs, rfl, rfl, H, hi, hx1, hx2⟩
            refine cw_seq ?_
            refine cw_seq ?_
            -- region 13 law.go:117
            refine cw_region (clf [.U, .U]) [0, 1] rfl (by kernel_rfl) (by decide) ?_
            refine TF.u (v := (.int .i64 _)) rfl rfl (pr_move rfl) ?_
            refine TF.u (v := (.bool _)) rfl rfl (pr_lss rfl rfl) ?_
            refine TF.nil (nx_then ?_)
            refine cw_cond _ rfl rfl (fun hq60 => ?_) (fun hq60 => ?_)
            ·
              have hp60 := dT hq60
              refine cw_skip (nx_then ?_)
              refine cw_seq ?_
              refine cw_block ?_
              refine cw_seq ?_
              -- region 15 law.go:118
              refine cw_region (clf [.U, .U, .U, .U, .U, .U]) [0, 1, 2, 3, 4, 5] rfl (by kernel_rfl) (by decide) ?_
              refine TF.u (v := (.int .u32 _)) rfl rfl (pr_move rfl) ?_
              refine TF.u (v := (.int .i64 _)) rfl rfl (pr_move rfl) ?_
              refine TF.u (v := (.int .u64 _)) rfl rfl (pr_conv Try.underlying3 Try.underlying49 rfl (IntWalk.u64_in _ (by omega))) ?_
              refine TF.u (v := (.int .u32 _)) rfl rfl (pr_shr rfl rfl (by omega) (shr32 _ i (by omega))) ?_
              refine TF.u (v := (.int .u32 _)) rfl rfl (pr_and rfl rfl (a32 _)) ?_
              refine TF.u (v := (.bool _)) rfl rfl (pr_eql rfl rfl) ?_
              refine TF.nil (nx_then ?_)
              refine cw_cond _ rfl rfl (fun hq62 => ?_) (fun hq62 => ?_)
              ·
                have hp62 := dT hq62
                -- region 16 law.go:119
                refine cw_region (clf [.U, .U, .U, .U, .U, .U, .U, .U, .X, .U, .U, .U, .U, .U, .U, .U, .U, .X]) [0, 1, 2, 3, 4, 5, 6, 7, 8, 9, 10, 11, 12, 13, 14, 15, 16, 17] rfl (by kernel_rfl) (by decide) ?_
                have hbit := shr_low.symm.trans (low_T (by assumption))
                refine TF.u (v := (.slice _ _ _)) rfl rfl (pr_move rfl) ?_
                refine TF.u (v := (.int .i64 _)) rfl rfl (pr_move rfl) ?_
                refine TF.u (v := (.int .i64 _)) rfl rfl (pr_move rfl) ?_
                refine TF.u (v := (.int .i64 _)) rfl rfl (pr_move rfl) ?_
                refine TF.u (v := (.int .i64 _)) rfl rfl (pr_add rfl rfl (IntWalk.i64_in _ (by omega))) ?_
                refine TF.u (v := (.int .i64 _)) rfl rfl (pr_quo rfl rfl (by omega) (show _ = (((k + i) / 8 : Nat) : Int) from IntWalk.i64_in _ (by have : (((k : Int) + (i : Int)).tdiv 8) = (((k + i) / 8 : Nat) : Int) := rfl; omega))) ?_
                refine TF.u (v := (.int .i64 _)) rfl rfl (pr_add rfl rfl (show _ = ((8 + (k + i) / 8 : Nat) : Int) from (IntWalk.i64_in _ (by omega)).trans (by omega))) ?_
                refine TF.idxB (H.rd (k := 0) rfl) rfl rfl (wantF_none rfl) Try.underlying29 (Try.ty5.s) rfl rfl (by omega) (by omega) ?_
                intro p63 hc64
                refine TF.load (v := (.int .u8 _)) rfl rfl (wantF_none rfl) Try.underlying5 rfl rfl hc64 ?_
                refine TF.u (v := (.int .i64 _)) rfl rfl (pr_move rfl) ?_
                refine TF.u (v := (.int .i64 _)) rfl rfl (pr_move rfl) ?_
                refine TF.u (v := (.int .i64 _)) rfl rfl (pr_add rfl rfl (IntWalk.i64_in _ (by omega))) ?_
                refine TF.u (v := (.int .i64 _)) rfl rfl (pr_rem rfl rfl (by omega) (show _ = (((64 + k + i) % 8 : Nat) : Int) by have h_ : ((k : Int) + (i : Int)).tmod 8 = (((k + i) % 8 : Nat) : Int) := rfl; rw [h_]; omega)) ?_
                refine TF.u (v := (.int .u64 _)) rfl rfl (pr_conv Try.underlying3 Try.underlying49 rfl (IntWalk.u64_in _ (by omega))) ?_
                refine TF.u (v := (.int .u8 _)) rfl rfl (pr_shl rfl rfl (by omega) (shl8 (by omega))) ?_
                refine TF.u (v := (.int .u8 _)) rfl rfl (pr_xor rfl rfl (x8 _ _)) ?_
                obtain ⟨g67, rfl⟩ := H.ownSome (k := 0) rfl (by omega)
                refine TF.u (v := (.pointer (some ⟨g67, _, none⟩))) rfl rfl (pr_idxO (b := g67) (o' := _) Try.underlying29 (Try.ty5.s) rfl rfl (by omega) (by omega) (Nat.mul_one _)) ?_
                refine TF.storeO (v := (u8 _)) (q := 0) H rfl rfl rfl (wantF_none rfl) (Try.ty5.s) rfl rfl rfl (by simp; omega) ?_
                clear H
                intro w ho68 H
                replace H : Sat _ _ _ [_] := H
                rw [u8s_set] at H
                refine TF.nil (nx_block (nx_then ?_))
                -- region 14 law.go:117
                refine cw_region (clf [.U, .U, .U]) [0, 1, 2] rfl (by kernel_rfl) (by decide) ?_
                refine TF.u (v := (.int .i64 _)) rfl rfl (pr_move rfl) ?_
                refine TF.u (v := (.int .i64 _)) rfl rfl (pr_add rfl rfl (IntWalk.i64_in _ (by omega))) ?_
                refine TF.u (v := (.int .i64 _)) rfl rfl (pr_assign rfl) ?_
                refine TF.nil (nx_loop (m' := 32 - (i + 1)) (by omega) ?_)
                exact ⟨_, i + 1, _, rfl, (cutS (cutS (cutS (cutS (cutS (cutS (cutS rfl rfl) rfl) rfl) rfl) rfl) rfl) rfl), H, by omega, by simpa using hx1, fun j hj => by rw [flip_bit (q := 64 + k + i) (by omega) (by omega), hx2 j hj, wn_T hbit, Bool.xor_assoc]⟩
              ·
                have hp62 := dF hq62
                refine cw_skip (nx_block (nx_then ?_))
                -- region 14 law.go:117
                refine cw_region (clf [.U, .U, .U]) [0, 1, 2] rfl (by kernel_rfl) (by decide) ?_
                refine TF.u (v := (.int .i64 _)) rfl rfl (pr_move rfl) ?_
                refine TF.u (v := (.int .i64 _)) rfl rfl (pr_add rfl rfl (IntWalk.i64_in _ (by omega))) ?_
                refine TF.u (v := (.int .i64 _)) rfl rfl (pr_assign rfl) ?_
                refine TF.nil (nx_loop (m' := 32 - (i + 1)) (by omega) ?_)
                exact ⟨_, i + 1, _, rfl, (cutS (cutS (cutS (cutS (cutS (cutS (cutS rfl rfl) rfl) rfl) rfl) rfl) rfl) rfl), H, by omega, hx1, fun j hj => by rw [hx2 j hj, wn_F (i := i) (t := turn) (shr_low.symm.trans (low_F (by assumption)))]⟩
            ·
              have hp60 := dF hq60
              refine cw_exit (ex_then (ex_then (ex_here (nx_then ?_))))
              refine cw_seq ?_
              -- region 17 law.go:122
              refine cw_region (clf [.U, .U, .X, .U, .U, .U, .X, .X, .U]) [0, 1, 2, 3, 4, 5, 6, 7, 8] rfl (by kernel_rfl) (by decide) ?_
              obtain rfl : i = 32 := by omega
              refine TF.u (v := (.int .i64 _)) rfl rfl (pr_move rfl) ?_
              refine TF.u (v := (.slice _ _ _)) rfl rfl (pr_move rfl) ?_
              refine TF.call (args := [(.int .i64 _), (.slice _ _ _)]) Try.fn15 rfl rfl (wantF_none rfl) rfl (decode_ok _ _ _ _ _ _ (H.rd (k := 0) rfl) (by omega) (by omega) (by omega)) ?_
              rintro e_ w ⟨rfl, hb69⟩
              refine ⟨_, rfl, ?_⟩
              replace H := H.below hb69
              refine TF.u (v := (.tuple _)) rfl rfl (pr_move rfl) ?_
              refine TF.u (v := (.agg ⟨pgV ((decS id xs).1)⟩)) rfl rfl (pr_extract (vs := _) rfl rfl) ?_
              refine TF.u (v := (.int .i64 _)) rfl rfl (pr_extract (vs := _) rfl rfl) ?_
              refine TF.alloc H rfl (Cx.xx rfl) (wantF_none rfl) (Try.ty27) rfl ?_
              clear H
              intro bk70 w hltbk70 hb71 H
              replace H : Sat _ _ _ (cBlk _ _ (pgV noPg) :: _) := H
              replace H : Sat _ _ _ [_, _] := H
              refine TF.storeN (q := 0) (cs' := pgV ((decS id xs).1)) H rfl rfl rfl (wantF_none rfl) (Try.ty27.s) rfl rfl (pgV_len (decS_ok id xs).len) (pgV_one _) (by have h_ : (pgV noPg).length = 17 := (pgV_len noPg_ok.len); omega) (store_all (pgV_len noPg_ok.len)) ?_
              clear H
              intro w ho72 H
              replace H : Sat _ _ _ [_, _] := H
              refine TF.u (v := (.int .i64 _)) rfl rfl (pr_assign rfl) ?_
              refine TF.nil (nx_then ?_)
              refine cw_seq ?_
              refine cw_seq ?_
              -- region 18 law.go:123
              refine cw_region (clf [.U]) [0] rfl (by kernel_rfl) (by decide) ?_
              refine TF.u (v := (.bool _)) rfl rfl (pr_move rfl) ?_
              refine TF.nil (nx_then ?_)
              refine cw_condF (t := _) rfl rfl hq11 ?_
              refine cw_skip (nx_then ?_)
              refine cw_seq ?_
              -- region 20 law.go:126
              refine cw_region (clf [.U, .U, .U]) [0, 1, 2] rfl (by kernel_rfl) (by decide) ?_
              refine TF.u (v := (.int .i64 _)) rfl rfl (pr_move rfl) ?_
              refine TF.u (v := (.bool _)) rfl rfl (pr_eql rfl rfl) ?_
              refine TF.u (v := (.bool _)) rfl rfl (pr_assign rfl) ?_
              refine TF.nil (nx_then ?_)
              refine cw_ret (fin1 (v := (.bool _)) Try.results9 rfl rfl ?_)
              exact ⟨by rw [turned_tale hnum ok_p.len hr hx1 (toNat_ne (b := 0#32) (by assumption)) hx2 (by omega)]; simp, H.base⟩
end Go.Proofs.Ytnhopkokdnbgjaa
namespace Go.Proofs.Ytnhopkokdnbgjaa
open Go.ChangeShapes Go.WideShapes Go.ChangeAt Go.RowKit
open Go.ChangeMaps (open_string shut_string)
theorem pageTurned_own : ownKnob Try.prog.godebug = none := by kernel_rfl
theorem pageTurned_laid : laidOutB Try.prog = true := by kernel_rfl
set_option maxRecDepth 100000 in
theorem pageTurned_lifted (os : Os) (started : os.Started) (H : Type) (enc : TypeId × Value → H) :
    ReturnsInHanded {} Try.checked os 9 .any (Rows.pageTurnedSpec.pre6 enc Try.prog Try.f9 Rows.pageTurnedRow.domain false) (Rows.pageTurnedSpec.post enc Try.prog Try.f9 false true false false) := by
  refine returnsInHanded_of_change_sized (C := Try.checked) pageTurned_own started (by kernel_rfl) Try.func9
    (ChangeSpec.witness6 (enc := enc) (C := Try.checked) false ⟨#[], #[.int .i64 0, .agg #[(.int .u64 0), (.bool false), (.string ⟨⟨[]⟩⟩), (.bool false), (.string ⟨⟨[]⟩⟩), (.bool false), (.string ⟨⟨[]⟩⟩), (.bool false), (.string ⟨⟨[]⟩⟩), (.bool false), (.string ⟨⟨[]⟩⟩), (.bool false), (.string ⟨⟨[]⟩⟩), (.bool false), (.string ⟨⟨[]⟩⟩), (.bool false), (.string ⟨⟨[]⟩⟩)], .bool false, .bool false, .int .u64 0, .int .u32 0], []⟩ 8 (by kernel_rfl) (by kernel_rfl) (by kernel_rfl) (by kernel_rfl)) ?_
  intro W base args ds gs before hval0 hW hcnd hsz0 _
  have hval : ∀ (j : Nat) t v, Try.f9.params[j]? = some t → args[j]? = some v → Value.okWide Try.prog W .any base t v := hval0
  have hW' := hW
  obtain ⟨p, q, hA0, hV, rfl, hfz, hnd⟩ := hW
  have hA : DataW.TrodAll enc Try.prog W 0 (fun _ => true) true Try.f9.params.toList args.toList ds p := hA0
  have hsz : (DataW.weightsEach Try.prog (Try.f9.params.toList ++ Rows.pageTurnedSpec.plain.varTypes Try.prog) (ds ++ gs)).all (· ≤ reachBytes) = true := hsz0
  rw [Try.params9] at hA hval hsz
  obtain ⟨v0, vs0, d0, ds0, p0, q0, hargs, rfl, rfl, h0, r0⟩ := trodAll_cons hA
  obtain ⟨v1, vs1, d1, ds1, p1, q1, rfl, rfl, rfl, h1, r1⟩ := trodAll_cons r0
  obtain ⟨v2, vs2, d2, ds2, p2, q2, rfl, rfl, rfl, h2, r2⟩ := trodAll_cons r1
  obtain ⟨v3, vs3, d3, ds3, p3, q3, rfl, rfl, rfl, h3, r3⟩ := trodAll_cons r2
  obtain ⟨v4, vs4, d4, ds4, p4, q4, rfl, rfl, rfl, h4, r4⟩ := trodAll_cons r3
  obtain ⟨v5, vs5, d5, ds5, p5, q5, rfl, rfl, rfl, h5, r5⟩ := trodAll_cons r4
  obtain ⟨rfl, rfl, rfl⟩ := trodAll_nil r5
  obtain rfl : args = #[v0, v1, v2, v3, v4, v5] := by cases args; simp_all
  obtain ⟨rfl, rfl⟩ := trodVars_none hV
  obtain ⟨a0, rfl, rfl, rfl, m0⟩ := open_int Try.underlying3 (hval 0 3 v0 rfl rfl) h0
  have z0 := bounds_i64 m0
  have k1 := h1
  have lt1 : ∀ x ∈ p1, x.block < W.heap.size := by obtain ⟨m, hm⟩ := k1; exact DataW.trod_lt m _ _ _ hm
  obtain ⟨fu1, hf1⟩ := h1
  obtain ⟨⟨l1⟩, rfl, hc1⟩ := okWide_struct Try.underlying27 (hval 1 27 v1 rfl rfl)
  obtain ⟨a1, hl1, ok1⟩ := Go.Q.OT.page (P := Try.prog) (t := 27) (cs := l1) ⟨fu1, _, hf1⟩ Try.underlying27 rfl Try.underlying22 Try.underlying25 Try.underlying24 rfl Try.underlying4 Try.underlying9 (by kernel_rfl)
  subst hl1
  obtain ⟨a2, rfl, rfl, rfl⟩ := open_bool Try.underlying4 (hval 2 4 v2 rfl rfl) h2
  obtain ⟨a3, rfl, rfl, rfl⟩ := open_bool Try.underlying4 (hval 3 4 v3 rfl rfl) h3
  obtain ⟨a4, rfl, rfl, rfl, m4⟩ := open_int Try.underlying49 (hval 4 49 v4 rfl rfl) h4
  have z4 := bounds_u64 m4
  obtain ⟨b4, rfl⟩ := Int.eq_ofNat_of_zero_le z4.1
  obtain ⟨a5, rfl, rfl, rfl, m5⟩ := open_int Try.underlying50 (hval 5 50 v5 rfl rfl) h5
  have z5 := bounds_u32 m5
  obtain ⟨b5, rfl⟩ : ∃ b : BitVec 32, a5 = ((b.toNat : Nat) : Int) := ⟨BitVec.ofNat 32 a5.toNat, by rw [BitVec.toNat_ofNat]; omega⟩
  clear hA0 hval0
  refine (PageTurned_ok a0 a1 a2 a3 b4 b5 W z0.1 z0.2 ok1 (by omega)).mono fun e W' ⟨he, bel⟩ => ?_
  subst he
  exact ⟨_, rfl, _, _, _, [], _, [], hW', trodAll_mk1 (shut_bool Try.underlying4 _), (trodAll_cons_mk (shut_int Try.underlying3 m0) (trodAll_cons_mk (Below.trod pageTurned_laid (by kernel_rfl) (of_decide_eq_true (by kernel_rfl)) k1 bel lt1) (trodAll_cons_mk (shut_bool Try.underlying4 _) (trodAll_cons_mk (shut_bool Try.underlying4 _) (trodAll_cons_mk (shut_int Try.underlying49 m4) (trodAll_cons_mk (shut_int Try.underlying50 m5) trodAll_mk0)))))), rfl, bel.frame _, fun h => by cases h⟩
theorem pageTurned_holds : Rows.PageTurnedSaid :=
  OpenClaim.holds_of_wide 9 Try.f9 rfl rfl rfl rfl rfl rfl rfl ⟨rfl, rfl, rfl, rfl, rfl⟩ rfl rfl rfl rfl rfl (by kernel_rfl) Try.func9 (by kernel_rfl)
    (of_decide_eq_true (by kernel_rfl)) (by unfold Func.isWrapper; first | (rw [if_pos (by decide +kernel)]; kernel_rfl) | (rw [if_neg (by decide +kernel)]; exact ⟨rfl, rfl⟩))
    (fun os started H enc _ => pageTurned_lifted os started H enc)
end Go.Proofs.Ytnhopkokdnbgjaa
