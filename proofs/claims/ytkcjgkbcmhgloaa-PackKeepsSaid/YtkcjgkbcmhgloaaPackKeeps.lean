/- The given statement Rows.PackKeepsSaid: quayside/quaysidelaw01.PackKeeps returns true for all arguments, and leaves its arguments as they were. No further condition. -/
import Derived.Test.YtkcjgkbcmhgloaaFns1
import Derived.Test.YtkcjgkbcmhgloaaRows
import Derived.WalkKit
import Derived.ProofKit
import Derived.OpenShut
import Derived.ShutString
import Derived.ChangeOld
import Derived.Below
import Derived.SizedLaws
import Derived.JoinedCond
set_option linter.unusedSimpArgs false
set_option linter.unusedVariables false
set_option maxRecDepth 10000
namespace Go.Proofs.Ytkcjgkbcmhgloaa
open Go.Q Go.RowKit Go.Proofs
theorem Try.fn10 : Fnc Try.prog 10 Try.f10 := ⟨Try.func10, by kernel_rfl, by kernel_rfl⟩
theorem Try.fn17 : Fnc Try.prog 17 Try.f17 := ⟨Try.func17, by kernel_rfl, by kernel_rfl⟩
theorem PackKeeps_ok (b : List UInt8) (n : Nat) (w0 : World) (hb : b.length ≤ 140737488351232) (hn : n < 18446744073709551616) :
    Calls Try.prog 7 #[T b, .int .u64 (n : Int)] w0 fun e w => e = .returned (.bool true) ∧ Below w0.heap.size w0 w := by
  refine enter (args := [T b, .int .u64 (n : Int)]) Try.func7 rfl Try.ntmps7 rfl ?_
  have H := Sat.start w0
  refine cw_seq ?_
  -- region 0 law.go:95
  refine cw_region (clf [.U]) [0] rfl (by kernel_rfl) ?_
  refine TF.u (v := (.bool _)) rfl rfl (pr_assign rfl) ?_
  refine TF.nil (nx_then ?_)
  refine cw_seq ?_
  refine cw_seq ?_
  -- region 1 law.go:96
  refine cw_region (clf [.X, .U]) [0, 1] rfl (by kernel_rfl) ?_
  refine TF.call (args := []) Try.fn10 rfl rfl (wantF_none rfl) rfl (awake_ok _) ?_
  rintro e_ w1 ⟨rfl, hb1⟩
  refine ⟨_, rfl, ?_⟩
  replace H := H.below hb1
  refine TF.u (v := (.bool _)) rfl rfl (pr_not rfl) ?_
  refine TF.nil (nx_then ?_)
  refine cw_condF (t := _) rfl rfl rfl ?_
  refine cw_skip (nx_then ?_)
  refine cw_seq ?_
  -- region 3 law.go:99
  refine cw_region (clf [.U, .U, .U, .U, .U, .X, .U]) [0, 1, 2, 3, 4, 5, 6] rfl (by kernel_rfl) ?_
  refine TF.u (v := (T _)) rfl rfl (pr_move rfl) ?_
  refine TF.u (v := (.int .i64 _)) rfl rfl (pr_slen rfl Try.underlying9 rfl) ?_
  refine TF.u (v := (T _)) rfl rfl (pr_move rfl) ?_
  refine TF.u (v := (.int .i64 _)) rfl rfl (pr_slen rfl Try.underlying9 rfl) ?_
  refine TF.u (v := (.int .i64 _)) rfl rfl (pr_add rfl rfl (IntWalk.i64_in _ (by omega))) ?_
  refine TF.make (nl := b.length) (nc := b.length + 20) (z1 := undef) H rfl (.inl rfl) (wantF_none rfl) Try.underlying24 (Try.ty5) rfl (by rfl) (by omega) (by omega) (by unfold maxLen; omega) ?_
  clear H
  intro bk2 w hltbk2 hb3 H
  rw [made_u8] at H
  refine TF.u (v := (.slice _ _ _)) rfl rfl (pr_assign rfl) ?_
  refine TF.nil (nx_then ?_)
  refine cw_seq ?_
  -- region 4 law.go:100
  refine cw_region (clf [.U, .U, .X]) [0, 1, 2] rfl (by kernel_rfl) ?_
  refine TF.u (v := (.slice _ _ _)) rfl rfl (pr_move rfl) ?_
  refine TF.u (v := (T _)) rfl rfl (pr_move rfl) ?_
  refine TF.copy (q := 0) (v := (T b)) (m := b.length) (m' := b.length) (news := u8s (b.take b.length)) H rfl rfl rfl (wantF_none rfl) Try.underlying24 (Try.ty5.s) rfl rfl (fun _ => rfl) (Nat.min_self _) (first_text _ _ _) (fun _ => u8s_one) (by simp [u8s_len]) ?_
  clear H
  intro w ho1 H
  replace H : Sat _ _ _ [_] := H
  rw [List.take_length] at H
  simp only [List.take_zero, List.nil_append, Nat.zero_add, u8s_len, u8s_drop, List.drop_replicate, Nat.add_sub_cancel_left, ← u8s_app] at H
  have hroom := (H.blk (k := 0) rfl).rdB (o := 0) (m := b.length) (c := b.length + 20) (ds := b) (by simp) (by omega) (by unfold maxLen; omega) (by simp)
  refine TF.nil (nx_then ?_)
  refine cw_seq ?_
  -- region 5 law.go:101
  refine cw_region (clf [.U, .U, .X, .U, .U, .U, .U, .U]) [0, 1, 2, 3, 4, 5, 6, 7] rfl (by kernel_rfl) ?_
  refine TF.u (v := (.slice _ _ _)) rfl rfl (pr_move rfl) ?_
  refine TF.u (v := (.int .u64 _)) rfl rfl (pr_move rfl) ?_
  refine TF.call (args := [(.slice _ _ _), (.int .i64 _), (.int .u64 _)]) Try.fn11 rfl rfl (wantF_none rfl) rfl (put_ok _ _ _ _ _ _ _ hroom (by omega) (by omega) (by omega) (by omega)) ?_
  rintro e_ w1 ⟨A4, n4, c4, rfl, hn4⟩
  refine ⟨_, rfl, ?_⟩
  replace hroom := hroom.below hn4.below
  replace H := H.newS hn4
  refine TF.u (v := (.tuple _)) rfl rfl (pr_move rfl) ?_
  refine TF.u (v := (.slice _ _ _)) rfl rfl (pr_extract (vs := _) rfl rfl) ?_
  refine TF.u (v := (.int .i64 _)) rfl rfl (pr_extract (vs := _) rfl rfl) ?_
  refine TF.u (v := (.slice _ _ _)) rfl rfl (pr_assign rfl) ?_
  refine TF.u (v := (.int .i64 _)) rfl rfl (pr_assign rfl) ?_
  refine TF.nil (nx_then ?_)
  refine cw_seq ?_
  -- region 6 law.go:102
  refine cw_region (clf [.U, .X, .U, .U, .U, .U, .U]) [0, 1, 2, 3, 4, 5, 6] rfl (by kernel_rfl) ?_
  refine TF.u (v := (.slice _ _ _)) rfl rfl (pr_move rfl) ?_
  refine TF.call (args := [(.slice _ _ _), (T _)]) Try.fn17 rfl rfl (wantF_none rfl) rfl (putText_ok _ _ _ _ _ _ hroom (by omega) (by first | omega | (simp; done))) ?_
  rintro e_ w1 ⟨A6, n6, c6, rfl, hn6⟩
  refine ⟨_, rfl, ?_⟩
  replace hroom := hroom.below hn6.below
  replace H := H.newS hn6
  refine TF.u (v := (.tuple _)) rfl rfl (pr_move rfl) ?_
  refine TF.u (v := (.slice _ _ _)) rfl rfl (pr_extract (vs := _) rfl rfl) ?_
  refine TF.u (v := (.int .i64 _)) rfl rfl (pr_extract (vs := _) rfl rfl) ?_
  refine TF.u (v := (.slice _ _ _)) rfl rfl (pr_assign rfl) ?_
  refine TF.u (v := (.int .i64 _)) rfl rfl (pr_assign rfl) ?_
  refine TF.nil (nx_then ?_)
  refine cw_seq ?_
  refine cw_seq ?_
  -- region 7 law.go:103
  refine cw_region (clf [.U, .U, .U, .U, .U, .U, .U, .U, .U, .U, .U, .U, .U, .U, .U, .U, .U, .U, .U, .U, .U, .U]) [0, 1, 2, 3, 4, 5, 6, 7, 8, 9, 10, 11, 12, 13, 14, 15, 16, 17, 18, 19, 20, 21] rfl (by kernel_rfl) ?_
  have e1 := putS_yes (b := b) (width := 8) (n := n) (by simp [fitsS]; omega)
  have e2 := putTextS_yes (b := b) (s := [97, 98]) (by simp)
  rw [e1, e2] at H ⊢
  have hx1 := (H.rdB (k := 1) rfl).length
  have hy1 := (H.rdB (k := 0) rfl).length
  simp only [List.length_append, List.length_cons, List.length_nil, be_len] at hx1 hy1
  refine TF.u (v := (.int .i64 _)) rfl rfl (pr_move rfl) ?_
  refine TF.u (v := (.bool _)) rfl rfl (pr_neq rfl rfl) ?_
  refine TF.u (v := (.bool _)) rfl rfl (pr_move rfl) ?_
  refine TF.split (dj := 36) rfl (fun hq9 => by
      have hp9 := dF (nT hq9)
      exfalso
      first | omega | exact hp9 rfl | exact hp9 (by decide) | (simp at hp9; done)) ?_
  intro hq9
  have hp9 := dT (nF hq9)
  refine TF.ug (v := (.int .i64 _)) rfl rfl (wantF_yes rfl rfl rfl hq9) (pr_move rfl) ?_
  refine TF.ug (v := (.bool _)) rfl rfl (wantF_yes rfl rfl rfl hq9) (pr_neq rfl rfl) ?_
  refine TF.u (v := (.bool _)) rfl rfl (pr_pickF rfl hq9 rfl) ?_
  refine TF.u (v := (.bool _)) rfl rfl (pr_move rfl) ?_
  refine TF.split (dj := 40) rfl (fun hq11 => by
      have hp11 := dF (nT hq11)
      exfalso
      first | omega | exact hp11 rfl | exact hp11 (by decide) | (simp at hp11; done)) ?_
  intro hq11
  have hp11 := dT (nF hq11)
  refine TF.ug (v := (.slice _ _ _)) rfl rfl (wantF_yes rfl rfl rfl hq11) (pr_move rfl) ?_
  refine TF.ug (v := (.int .i64 _)) rfl rfl (wantF_yes rfl rfl rfl hq11) (pr_len rfl Try.underlying24 rfl) ?_
  refine TF.ug (v := (T _)) rfl rfl (wantF_yes rfl rfl rfl hq11) (pr_move rfl) ?_
  refine TF.ug (v := (.int .i64 _)) rfl rfl (wantF_yes rfl rfl rfl hq11) (pr_slen rfl Try.underlying9 rfl) ?_
  refine TF.ug (v := (.int .i64 _)) rfl rfl (wantF_yes rfl rfl rfl hq11) (pr_add rfl rfl (IntWalk.i64_in _ (by omega))) ?_
  refine TF.ug (v := (.bool _)) rfl rfl (wantF_yes rfl rfl rfl hq11) (pr_neq rfl rfl) ?_
  refine TF.u (v := (.bool _)) rfl rfl (pr_pickF rfl hq11 rfl) ?_
  refine TF.u (v := (.bool _)) rfl rfl (pr_move rfl) ?_
  refine TF.split (dj := 48) rfl (fun hq13 => by
      have hp13 := dF (nT hq13)
      exfalso
      first | omega | exact hp13 rfl | exact hp13 (by decide) | (simp at hp13; done)) ?_
  intro hq13
  have hp13 := dT (nF hq13)
  refine TF.ug (v := (.slice _ _ _)) rfl rfl (wantF_yes rfl rfl rfl hq13) (pr_move rfl) ?_
  refine TF.ug (v := (.int .i64 _)) rfl rfl (wantF_yes rfl rfl rfl hq13) (pr_len rfl Try.underlying24 rfl) ?_
  refine TF.ug (v := (T _)) rfl rfl (wantF_yes rfl rfl rfl hq13) (pr_move rfl) ?_
  refine TF.ug (v := (.int .i64 _)) rfl rfl (wantF_yes rfl rfl rfl hq13) (pr_slen rfl Try.underlying9 rfl) ?_
  refine TF.ug (v := (.int .i64 _)) rfl rfl (wantF_yes rfl rfl rfl hq13) (pr_add rfl rfl (IntWalk.i64_in _ (by omega))) ?_
  refine TF.ug (v := (.bool _)) rfl rfl (wantF_yes rfl rfl rfl hq13) (pr_neq rfl rfl) ?_
  refine TF.u (v := (.bool _)) rfl rfl (pr_pickF rfl hq13 rfl) ?_
  refine TF.nil (nx_then ?_)
  refine cw_cond _ rfl rfl (fun hq15 => by
      have hp15 := dF (nT hq15)
      exfalso
      first | omega | exact hp15 rfl | exact hp15 (by decide) | (simp at hp15; done)) ?_
  intro hq15
  have hp15 := dT (nF hq15)
  refine cw_skip (nx_then ?_)
  refine cw_seq ?_
  -- region 9 law.go:106
  refine cw_region (clf [.U, .U, .U, .U, .U, .U]) [0, 1, 2, 3, 4, 5] rfl (by kernel_rfl) ?_
  refine TF.u (v := (.slice _ _ _)) rfl rfl (pr_move rfl) ?_
  refine TF.u (v := (T _)) rfl rfl (pr_move rfl) ?_
  refine TF.u (v := (.int .i64 _)) rfl rfl (pr_slen rfl Try.underlying9 rfl) ?_
  refine TF.u (v := (.int .i64 _)) rfl rfl (pr_add rfl rfl (IntWalk.i64_in _ (by omega))) ?_
  refine TF.u (v := (.slice _ _ _)) rfl rfl (pr_cut (l := 0) (h := b.length + 20) (mm := b.length + 20) Try.underlying24 (Try.ty5.s) rfl (.inl ⟨rfl, rfl⟩) (.inr ⟨_, _, rfl, (by rfl)⟩) (.inl ⟨rfl, rfl⟩) (by omega) (by omega) (by omega) (n' := b.length + 20) (c' := b.length + 20) (by omega) (by omega)) ?_
  have hall := (H.blk (k := 2) rfl).rdB (o := 0) (m := b.length + 20) (c := b.length + 20) (ds := b ++ List.replicate 20 0) (by simp) (by omega) (by unfold maxLen; omega) (by rw [List.drop_zero, List.take_of_length_le (by simp)])
  refine TF.u (v := (.slice _ _ _)) rfl rfl (pr_assign rfl) ?_
  refine TF.nil (nx_then ?_)
  refine cw_seq ?_
  refine cw_seq ?_
  -- region 10 law.go:107
  refine cw_region (clf [.U, .U, .U]) [0, 1, 2] rfl (by kernel_rfl) ?_
  refine TF.u (v := (T _)) rfl rfl (pr_move rfl) ?_
  refine TF.u (v := (.int .i64 _)) rfl rfl (pr_slen rfl Try.underlying9 rfl) ?_
  refine TF.u (v := (.int .i64 _)) rfl rfl (pr_assign rfl) ?_
  refine TF.nil (nx_then ?_)
  refine cw_block ?_
  refine cw_loop (fun m f w => ∃ (g_ : Nat → Value) (i : Nat), m = b.length + 20 - i ∧ f = (upd (upd (upd (upd (upd (upd g_ 0 (T b)) 5 (.slice (some ⟨bk2, 0, none⟩) b.length (b.length + 20))) 6 (.slice A4 n4 c4)) 8 (.slice A6 n6 c6)) 10 (.slice (some ⟨bk2, 0, none⟩) (b.length + 20) (b.length + 20))) 11 (.int .i64 (i : Int))) ∧ Sat [] w0 w [cOwnB 5 A6 n6 c6 (b ++ [UInt8.ofNat ([97, 98].length % 256)] ++ [97, 98]), cOwnB 5 A4 n4 c4 (b ++ be (Int.toNat 8) n), cBlk bk2 5 (u8s (b ++ List.replicate 20 0))] ∧ b.length ≤ i ∧ i ≤ b.length + 20) (b.length + 20 - b.length) ?_ ?_
  ·
    exact ⟨_, b.length, rfl, (cutS (cutS (cutS (cutS (cutS (cutS rfl rfl) rfl) rfl) rfl) rfl) rfl), H, Nat.le_refl _, Nat.le_add_right _ _⟩
  ·
    clear H
    rintro m_ f_ w ⟨g_, i, rfl, rfl, H, hi, hi2⟩
    have hall := (H.blk (k := 2) rfl).rdB (o := 0) (m := b.length + 20) (c := b.length + 20) (ds := b ++ List.replicate 20 0) (by simp) (by omega) (by unfold maxLen; omega) (by rw [List.drop_zero, List.take_of_length_le (by simp)])
    refine cw_seq ?_
    refine cw_seq ?_
    -- region 11 law.go:107
    refine cw_region (clf [.U, .U, .U, .U]) [0, 1, 2, 3] rfl (by kernel_rfl) ?_
    refine TF.u (v := (.int .i64 _)) rfl rfl (pr_move rfl) ?_
    refine TF.u (v := (.slice _ _ _)) rfl rfl (pr_move rfl) ?_
    refine TF.u (v := (.int .i64 _)) rfl rfl (pr_len rfl Try.underlying24 rfl) ?_
    refine TF.u (v := (.bool _)) rfl rfl (pr_lss rfl rfl) ?_
    refine TF.nil (nx_then ?_)
    refine cw_cond _ rfl rfl (fun hq17 => ?_) (fun hq17 => ?_)
    ·
      have hp17 := dT hq17
      refine cw_skip (nx_then ?_)
      refine cw_seq ?_
      refine cw_block ?_
      refine cw_seq ?_
      -- region 13 law.go:108
      refine cw_region (clf [.U, .U, .U, .X, .U]) [0, 1, 2, 3, 4] rfl (by kernel_rfl) ?_
      have hz : (b ++ List.replicate 20 0).getD (i : Int).toNat 0 = 0 := pad_getD (by omega)
      refine TF.u (v := (.slice _ _ _)) rfl rfl (pr_move rfl) ?_
      refine TF.u (v := (.int .i64 _)) rfl rfl (pr_move rfl) ?_
      refine TF.idxB hall rfl rfl (wantF_none rfl) Try.underlying24 (Try.ty5.s) rfl rfl (by omega) (by omega) ?_
      intro p18 hc19
      refine TF.load (v := (.int .u8 _)) rfl rfl (wantF_none rfl) Try.underlying5 rfl rfl hc19 ?_
      refine TF.u (v := (.bool _)) rfl rfl (pr_neq rfl rfl) ?_
      refine TF.nil (nx_then ?_)
      refine cw_cond _ rfl rfl (fun hq21 => by
          have hp21 := dF (nT hq21)
          exfalso
          rw [hz] at hp21; exact hp21 rfl) ?_
      intro hq21
      have hp21 := dT (nF hq21)
      refine cw_skip (nx_block (nx_then ?_))
      -- region 12 law.go:107
      refine cw_region (clf [.U, .U, .U]) [0, 1, 2] rfl (by kernel_rfl) ?_
      refine TF.u (v := (.int .i64 _)) rfl rfl (pr_move rfl) ?_
      refine TF.u (v := (.int .i64 _)) rfl rfl (pr_add rfl rfl (IntWalk.i64_in _ (by omega))) ?_
      refine TF.u (v := (.int .i64 _)) rfl rfl (pr_assign rfl) ?_
      refine TF.nil (nx_loop (m' := b.length + 20 - (i + 1)) (by omega) ?_)
      exact ⟨_, i + 1, rfl, (cutS (cutS (cutS (cutS (cutS (cutS rfl rfl) rfl) rfl) rfl) rfl) rfl), H, by omega, by omega⟩
    ·
      have hp17 := dF hq17
      refine cw_exit (ex_then (ex_then (ex_here (nx_then ?_))))
      refine cw_seq ?_
      -- region 15 law.go:112
      refine cw_region (clf [.U, .U, .X, .U, .U, .X]) [0, 1, 2, 3, 4, 5] rfl (by kernel_rfl) ?_
      refine TF.u (v := (.slice _ _ _)) rfl rfl (pr_move rfl) ?_
      refine TF.idxB (H.rd (k := 1) rfl) rfl rfl (wantF_none rfl) Try.underlying24 (Try.ty5.s) rfl rfl (by omega) (by omega) ?_
      intro p22 hc23
      refine TF.load (v := (.int .u8 _)) rfl rfl (wantF_none rfl) Try.underlying5 rfl rfl hc23 ?_
      refine TF.u (v := (.int .u8 _)) rfl rfl (pr_add rfl rfl (u8_inc _)) ?_
      obtain ⟨g26, rfl⟩ := H.ownSome (k := 1) rfl (by omega)
      refine TF.u (v := (.pointer (some ⟨g26, _, none⟩))) rfl rfl (pr_idxO (b := g26) (o' := _) Try.underlying24 (Try.ty5.s) rfl rfl (by omega) (by omega) rfl) ?_
      refine TF.storeO (v := (u8 _)) (q := 1) H rfl rfl rfl (wantF_none rfl) (Try.ty5.s) rfl rfl rfl (by simp; omega) ?_
      clear H
      intro w ho27 H
      replace H : Sat _ _ _ [_, _, _] := H
      rw [u8s_set] at H
      refine TF.nil (nx_then ?_)
      refine cw_seq ?_
      -- region 16 law.go:113
      refine cw_region (clf [.U, .U, .X, .U, .U, .X]) [0, 1, 2, 3, 4, 5] rfl (by kernel_rfl) ?_
      refine TF.u (v := (.slice _ _ _)) rfl rfl (pr_move rfl) ?_
      refine TF.idxB (H.rd (k := 0) rfl) rfl rfl (wantF_none rfl) Try.underlying24 (Try.ty5.s) rfl rfl (by omega) (by omega) ?_
      intro p28 hc29
      refine TF.load (v := (.int .u8 _)) rfl rfl (wantF_none rfl) Try.underlying5 rfl rfl hc29 ?_
      refine TF.u (v := (.int .u8 _)) rfl rfl (pr_add rfl rfl (u8_inc _)) ?_
      obtain ⟨g32, rfl⟩ := H.ownSome (k := 0) rfl (by omega)
      refine TF.u (v := (.pointer (some ⟨g32, _, none⟩))) rfl rfl (pr_idxO (b := g32) (o' := _) Try.underlying24 (Try.ty5.s) rfl rfl (by omega) (by omega) rfl) ?_
      refine TF.storeO (v := (u8 _)) (q := 0) H rfl rfl rfl (wantF_none rfl) (Try.ty5.s) rfl rfl rfl (by simp; omega) ?_
      clear H
      intro w ho33 H
      replace H : Sat _ _ _ [_, _, _] := H
      rw [u8s_set] at H
      refine TF.nil (nx_then ?_)
      refine cw_seq ?_
      -- region 17 law.go:114
      refine cw_region (clf [.U, .X, .U, .U, .U]) [0, 1, 2, 3, 4] rfl (by kernel_rfl) ?_
      have hroom := (H.blk (k := 2) rfl).rdB (o := 0) (m := b.length) (c := b.length + 20) (ds := b) (by simp) (by omega) (by unfold maxLen; omega) (by simp)
      refine TF.u (v := (.slice _ _ _)) rfl rfl (pr_move rfl) ?_
      refine TF.tostr hroom rfl rfl (wantF_none rfl) Try.underlying24 Try.underlying5 Try.underlying9 rfl ?_
      refine TF.u (v := (T _)) rfl rfl (pr_move rfl) ?_
      refine TF.u (v := (.bool _)) rfl rfl (pr_seql rfl rfl) ?_
      refine TF.u (v := (.bool _)) rfl rfl (pr_assign rfl) ?_
      refine TF.nil (nx_then ?_)
      refine cw_ret (fin1 (v := (.bool _)) Try.results7 rfl rfl ?_)
      exact ⟨by simp, H.base⟩
end Go.Proofs.Ytkcjgkbcmhgloaa
namespace Go.Proofs.Ytkcjgkbcmhgloaa
open Go.ChangeShapes Go.WideShapes Go.ChangeAt Go.RowKit
open Go.ChangeMaps (open_string shut_string)
theorem packKeeps_own : ownKnob Try.prog.godebug = none := by kernel_rfl
set_option maxRecDepth 100000 in
theorem packKeeps_lifted (os : Os) (started : os.Started) (H : Type) (enc : TypeId × Value → H) :
    ReturnsInHanded {} Try.checked os 7 .any (Rows.packKeepsSpec.pre6 enc Try.prog Try.f7 Rows.packKeepsRow.domain false) (Rows.packKeepsSpec.post enc Try.prog Try.f7 false true false false) := by
  refine returnsInHanded_of_change_sized (C := Try.checked) packKeeps_own started (by kernel_rfl) Try.func7
    (ChangeSpec.witness6 (enc := enc) (C := Try.checked) false ⟨#[], #[.string .empty, .int .u64 0], []⟩ 8 (by kernel_rfl) (by kernel_rfl) (by kernel_rfl) (by kernel_rfl)) ?_
  intro W base args ds gs before hval0 hW hcnd hsz0 _
  have hval : ∀ (j : Nat) t v, Try.f7.params[j]? = some t → args[j]? = some v → Value.okWide Try.prog W .any base t v := hval0
  have hW' := hW
  obtain ⟨p, q, hA0, hV, rfl, hfz, hnd⟩ := hW
  have hA : DataW.TrodAll enc Try.prog W 0 (fun _ => true) true Try.f7.params.toList args.toList ds p := hA0
  have hsz : (DataW.weightsEach Try.prog (Try.f7.params.toList ++ Rows.packKeepsSpec.plain.varTypes Try.prog) (ds ++ gs)).all (· ≤ reachBytes) = true := hsz0
  rw [Try.params7] at hA hval hsz
  obtain ⟨v0, vs0, d0, ds0, p0, q0, hargs, rfl, rfl, h0, r0⟩ := trodAll_cons hA
  obtain ⟨v1, vs1, d1, ds1, p1, q1, rfl, rfl, rfl, h1, r1⟩ := trodAll_cons r0
  obtain ⟨rfl, rfl, rfl⟩ := trodAll_nil r1
  obtain rfl : args = #[v0, v1] := by cases args; simp_all
  obtain ⟨rfl, rfl⟩ := trodVars_none hV
  obtain ⟨a0, rfl, rfl, rfl, m0⟩ := open_string Try.underlying9 (hval 0 9 v0 rfl rfl) h0
  have z0 : a0.data.toList.length ≤ 140737488351232 := sized_string hsz (j := 0) rfl rfl
  obtain ⟨a1, rfl, rfl, rfl, m1⟩ := open_int Try.underlying22 (hval 1 22 v1 rfl rfl) h1
  have z1 := bounds_u64 m1
  obtain ⟨b1, rfl⟩ := Int.eq_ofNat_of_zero_le z1.1
  clear hA0 hval0
  refine (PackKeeps_ok a0.data.toList b1 W z0 (by omega)).mono fun e W' ⟨he, bel⟩ => ?_
  subst he
  exact ⟨_, rfl, _, _, _, [], _, [], hW', trodAll_mk1 (shut_bool Try.underlying4 _), (trodAll_cons_mk (shut_string Try.underlying9 m0) (trodAll_cons_mk (shut_int Try.underlying22 m1) trodAll_mk0)), rfl, bel.frame _, fun h => by cases h⟩
theorem packKeeps_holds : Rows.PackKeepsSaid :=
  OpenClaim.holds_of_wide 7 Try.f7 rfl rfl rfl rfl rfl rfl rfl ⟨rfl, rfl, rfl, rfl, rfl⟩ rfl rfl rfl rfl rfl (by kernel_rfl) Try.func7 (by kernel_rfl)
    (of_decide_eq_true (by kernel_rfl)) (by unfold Func.isWrapper; first | (rw [if_pos (by decide +kernel)]; kernel_rfl) | (rw [if_neg (by decide +kernel)]; exact ⟨rfl, rfl⟩))
    (fun os started H enc _ => packKeeps_lifted os started H enc)
end Go.Proofs.Ytkcjgkbcmhgloaa
