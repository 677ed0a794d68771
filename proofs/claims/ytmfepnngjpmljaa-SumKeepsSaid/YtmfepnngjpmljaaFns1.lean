/- What the functions of this seat compute, each walked once (no condition but those in each statement): sum.turn, sum.More, sum.Of, sum.Seal, sum.Open, quaysideref02.run, quaysideref02.Of, quaysideref02.More, quaysideref02.Seal, quaysideref02.Open, quaysidelaw02.awake -/
import Derived.Test.YtmfepnngjpmljaaCore7
import Derived.Test.YtmfepnngjpmljaaMath
import Derived.Test.YtmfepnngjpmljaaMath1
import Derived.Test.YtmfepnngjpmljaaCrc
import Derived.Test.YtmfepnngjpmljaaCrc2
import Derived.Test.YtmfepnngjpmljaaCrc3
import Derived.Test.YtmfepnngjpmljaaProg
import Derived.KernelRfl
set_option linter.unusedSimpArgs false
set_option linter.unusedVariables false
set_option maxRecDepth 10000
namespace Go.Proofs.Ytmfepnngjpmljaa
open Go.Q Go.RowKit Go.Proofs
theorem Try.wide_ : Go.Proofs.Try.prog.follows .mixedOrders = true := by kernel_rfl
theorem Try.ty5 : Ty Try.prog 5 (.int .u8) (.int .u8 0) 1 1 := ty_mk (by kernel_rfl) (by kernel_rfl)
theorem Try.fn11 : Fnc Try.prog 11 Try.f11 := ⟨Try.func11, by kernel_rfl, by kernel_rfl⟩
theorem Try.fn12 : Fnc Try.prog 12 Try.f12 := ⟨Try.func12, by kernel_rfl, by kernel_rfl⟩
theorem Try.fn13 : Fnc Try.prog 13 Try.f13 := ⟨Try.func13, by kernel_rfl, by kernel_rfl⟩
theorem Try.fn18 : Fnc Try.prog 18 Try.f18 := ⟨Try.func18, by kernel_rfl, by kernel_rfl⟩
theorem Try.fn19 : Fnc Try.prog 19 Try.f19 := ⟨Try.func19, by kernel_rfl, by kernel_rfl⟩
theorem Try.fn20 : Fnc Try.prog 20 Try.f20 := ⟨Try.func20, by kernel_rfl, by kernel_rfl⟩
theorem turn_ok (r : R) (c : UInt8) (w0 : World) :
    Calls Try.prog 20 #[.int .u32 (((r).toNat : Nat) : Int), .int .u8 (c.toNat : Int)] w0 fun e w => e = .returned (.int .u32 (((trn r c).toNat : Nat) : Int)) ∧ Below w0.heap.size w0 w := by
  refine enter (args := [.int .u32 (((r).toNat : Nat) : Int), .int .u8 (c.toNat : Int)]) Try.func20 rfl Try.ntmps20 rfl ?_
  have H := Sat.start w0
  refine cw_seq ?_
  -- region 0 sum.go:7
  refine cw_region (clf [.U]) [0] rfl (by kernel_rfl) (by decide) ?_
  refine TF.u (v := (.int .u32 _)) rfl rfl (pr_assign rfl) ?_
  refine TF.nil (nx_then ?_)
  refine cw_seq ?_
  -- region 1 sum.go:8
  refine cw_region (clf [.U, .U, .U, .U, .U]) [0, 1, 2, 3, 4] rfl (by kernel_rfl) (by decide) ?_
  refine TF.u (v := (.int .u32 _)) rfl rfl (pr_move rfl) ?_
  refine TF.u (v := (.int .u8 _)) rfl rfl (pr_move rfl) ?_
  refine TF.u (v := (.int .u32 _)) rfl rfl (pr_conv Try.underlying5 Try.underlying22 rfl (rb32 _)) ?_
  refine TF.u (v := (.int .u32 _)) rfl rfl (pr_xor rfl rfl (x32 _ _)) ?_
  refine TF.u (v := (.int .u32 _)) rfl rfl (pr_assign rfl) ?_
  refine TF.nil (nx_then ?_)
  refine cw_seq ?_
  refine cw_seq ?_
  -- region 2 sum.go:9
  refine cw_region (clf [.U]) [0] rfl (by kernel_rfl) (by decide) ?_
  refine TF.u (v := (.int .i64 _)) rfl rfl (pr_move rfl) ?_
  refine TF.nil (nx_then ?_)
  refine cw_block ?_
  refine cw_loop (fun m f w => ∃ (g_ : Nat → Value) (i : Nat), m = 8 - i ∧ f = (upd (upd g_ 0 (.int .u32 (((stps i (r ^^^ rb c)).toNat : Nat) : Int))) 9 (.int .i64 (i : Int))) ∧ Sat [] w0 w [] ∧ i ≤ 8) (8 - 0) ?_ ?_
  ·
    exact ⟨_, 0, rfl, (cutS (cutS rfl rfl) rfl), H, Nat.zero_le _⟩
  ·
    clear H
    rintro m_ f_ w ⟨g_, i, rfl, rfl, H, hi⟩
    refine cw_seq ?_
    -- region 3 sum.go:9
    refine cw_region (clf [.U]) [0] rfl (by kernel_rfl) (by decide) ?_
    refine TF.u (v := (.bool _)) rfl rfl (pr_lss rfl rfl) ?_
    refine TF.nil (nx_then ?_)
    refine cw_seq ?_
    refine cw_cond _ rfl rfl (fun hq2 => ?_) (fun hq2 => ?_)
    ·
      have hp2 := dT hq2
      refine cw_skip (nx_then ?_)
      refine cw_seq ?_
      refine cw_block ?_
      refine cw_seq ?_
      -- region 4 sum.go:10
      refine cw_region (clf [.U, .U, .U]) [0, 1, 2] rfl (by kernel_rfl) (by decide) ?_
      refine TF.u (v := (.int .u32 _)) rfl rfl (pr_move rfl) ?_
      refine TF.u (v := (.int .u32 _)) rfl rfl (pr_and rfl rfl (a32 _)) ?_
      refine TF.u (v := (.bool _)) rfl rfl (pr_eql rfl rfl) ?_
      refine TF.nil (nx_then ?_)
      refine cw_cond _ rfl rfl (fun hq4 => ?_) (fun hq4 => ?_)
      ·
        have hp4 := dT hq4
        -- region 5 sum.go:11
        refine cw_region (clf [.U, .U, .U, .U]) [0, 1, 2, 3] rfl (by kernel_rfl) (by decide) ?_
        have hb := low_T (by assumption)
        refine TF.u (v := (.int .u32 _)) rfl rfl (pr_move rfl) ?_
        refine TF.u (v := (.int .u32 _)) rfl rfl (pr_shr rfl rfl (by omega) (shr32 _ 1 (by omega))) ?_
        refine TF.u (v := (.int .u32 _)) rfl rfl (pr_xor rfl rfl (xp32 _)) ?_
        refine TF.u (v := (.int .u32 _)) rfl rfl (pr_assign rfl) ?_
        refine TF.nil (nx_block (nx_then ?_))
        -- region 7 sum.go:9
        refine cw_region (clf [.U, .U]) [0, 1] rfl (by kernel_rfl) (by decide) ?_
        refine TF.u (v := (.int .i64 _)) rfl rfl (pr_add rfl rfl (IntWalk.i64_in _ (by omega))) ?_
        refine TF.u (v := (.int .i64 _)) rfl rfl (pr_move rfl) ?_
        refine TF.nil (nx_loop (m' := 8 - (i + 1)) (by omega) ?_)
        exact ⟨_, i + 1, rfl, (cutS (cutS rfl (by rw [stps, stp_T hb]; rfl)) rfl), H, by omega⟩
      ·
        have hp4 := dF hq4
        -- region 6 sum.go:13
        refine cw_region (clf [.U, .U, .U]) [0, 1, 2] rfl (by kernel_rfl) (by decide) ?_
        have hb := low_F (by assumption)
        refine TF.u (v := (.int .u32 _)) rfl rfl (pr_move rfl) ?_
        refine TF.u (v := (.int .u32 _)) rfl rfl (pr_shr rfl rfl (by omega) (shr32 _ 1 (by omega))) ?_
        refine TF.u (v := (.int .u32 _)) rfl rfl (pr_assign rfl) ?_
        refine TF.nil (nx_block (nx_then ?_))
        -- region 7 sum.go:9
        refine cw_region (clf [.U, .U]) [0, 1] rfl (by kernel_rfl) (by decide) ?_
        refine TF.u (v := (.int .i64 _)) rfl rfl (pr_add rfl rfl (IntWalk.i64_in _ (by omega))) ?_
        refine TF.u (v := (.int .i64 _)) rfl rfl (pr_move rfl) ?_
        refine TF.nil (nx_loop (m' := 8 - (i + 1)) (by omega) ?_)
        exact ⟨_, i + 1, rfl, (cutS (cutS rfl (by rw [stps, stp_F hb]; rfl)) rfl), H, by omega⟩
    ·
      have hp2 := dF hq2
      refine cw_exit (ex_then (ex_then (ex_here (nx_then ?_))))
      refine cw_seq ?_
      -- region 8 sum.go:16
      refine cw_region (clf [.U, .U]) [0, 1] rfl (by kernel_rfl) (by decide) ?_
      refine TF.u (v := (.int .u32 _)) rfl rfl (pr_move rfl) ?_
      refine TF.u (v := (.int .u32 _)) rfl rfl (pr_assign rfl) ?_
      refine TF.nil (nx_then ?_)
      refine cw_ret (fin1 (v := (.int .u32 _)) Try.results20 rfl rfl ?_)
      obtain rfl : i = 8 := by omega
      exact ⟨rfl, H.base⟩

theorem more_ok (s : R) (A : Option Addr) (n c : Nat) (bs : List UInt8) (w0 : World) (hb : RdB w0 A n c bs) (hn : n ≤ 281474976710656) :
    Calls Try.prog 13 #[.int .u32 (((s).toNat : Nat) : Int), .slice A n c] w0 fun e w => e = .returned (.int .u32 (((moreS s bs).toNat : Nat) : Int)) ∧ Below w0.heap.size w0 w := by
  refine enter (args := [.int .u32 (((s).toNat : Nat) : Int), .slice A n c]) Try.func13 rfl Try.ntmps13 rfl ?_
  have H := Sat.start w0
  refine cw_seq ?_
  -- region 0 sum.go:20
  refine cw_region (clf [.U]) [0] rfl (by kernel_rfl) (by decide) ?_
  refine TF.u (v := (.int .u32 _)) rfl rfl (pr_assign rfl) ?_
  refine TF.nil (nx_then ?_)
  refine cw_seq ?_
  -- region 1 sum.go:21
  refine cw_region (clf [.U, .U, .U]) [0, 1, 2] rfl (by kernel_rfl) (by decide) ?_
  refine TF.u (v := (.int .u32 _)) rfl rfl (pr_move rfl) ?_
  refine TF.u (v := (.int .u32 _)) rfl rfl (pr_inv rfl (inv32 _)) ?_
  refine TF.u (v := (.int .u32 _)) rfl rfl (pr_assign rfl) ?_
  refine TF.nil (nx_then ?_)
  refine cw_seq ?_
  refine cw_seq ?_
  -- region 2 sum.go:22
  refine cw_region (clf [.U, .U, .U]) [0, 1, 2] rfl (by kernel_rfl) (by decide) ?_
  refine TF.u (v := (.slice _ _ _)) rfl rfl (pr_move rfl) ?_
  refine TF.u (v := (.int .i64 _)) rfl rfl (pr_len rfl Try.underlying25 rfl) ?_
  refine TF.u (v := (.int .i64 _)) rfl rfl (pr_move rfl) ?_
  refine TF.nil (nx_then ?_)
  refine cw_block ?_
  refine cw_loop (fun m f w => ∃ (g_ : Nat → Value) (i : Nat), m = n - i ∧ f = (upd (upd (upd (upd g_ 5 (.int .u32 (((runR (~~~ s) (bs.take i)).toNat : Nat) : Int))) 10 (.slice A n c)) 11 (.int .i64 (n : Int))) 12 (.int .i64 (i : Int))) ∧ Sat [] w0 w [] ∧ i ≤ n) (n - 0) ?_ ?_
  ·
    exact ⟨_, 0, rfl, (cutS (cutS (cutS (cutS rfl rfl) rfl) rfl) rfl), H, Nat.zero_le _⟩
  ·
    clear H
    rintro m_ f_ w ⟨g_, i, rfl, rfl, H, hi⟩
    refine cw_seq ?_
    -- region 3 sum.go:22
    refine cw_region (clf [.U]) [0] rfl (by kernel_rfl) (by decide) ?_
    refine TF.u (v := (.bool _)) rfl rfl (pr_lss rfl rfl) ?_
    refine TF.nil (nx_then ?_)
    refine cw_seq ?_
    refine cw_cond _ rfl rfl (fun hq2 => ?_) (fun hq2 => ?_)
    ·
      have hp2 := dT hq2
      refine cw_skip (nx_then ?_)
      refine cw_seq ?_
      refine cw_block ?_
      refine cw_seq ?_
      -- region 4 sum.go:22
      refine cw_region (clf [.U, .X, .U]) [0, 1, 2] rfl (by kernel_rfl) (by decide) ?_
      refine TF.idxB (hb.below H.base) rfl rfl (wantF_none rfl) Try.underlying25 (Try.ty5.s) rfl rfl (by omega) (by omega) ?_
      intro p3 hc4
      refine TF.load (v := (.int .u8 _)) rfl rfl (wantF_none rfl) Try.underlying5 rfl rfl hc4 ?_
      refine TF.u (v := (.int .u8 _)) rfl rfl (pr_assign rfl) ?_
      refine TF.nil (nx_then ?_)
      -- region 5 sum.go:23
      refine cw_region (clf [.U, .U, .X, .U]) [0, 1, 2, 3] rfl (by kernel_rfl) (by decide) ?_
      refine TF.u (v := (.int .u32 _)) rfl rfl (pr_move rfl) ?_
      refine TF.u (v := (.int .u8 _)) rfl rfl (pr_move rfl) ?_
      refine TF.call (args := [(.int .u32 _), (.int .u8 _)]) Try.fn20 rfl rfl (wantF_none rfl) rfl (turn_ok _ _ _) ?_
      rintro e_ w ⟨rfl, hb5⟩
      refine ⟨_, rfl, ?_⟩
      replace H := H.below hb5
      refine TF.u (v := (.int .u32 _)) rfl rfl (pr_assign rfl) ?_
      refine TF.nil (nx_block (nx_then ?_))
      -- region 6 sum.go:22
      refine cw_region (clf [.U, .U]) [0, 1] rfl (by kernel_rfl) (by decide) ?_
      refine TF.u (v := (.int .i64 _)) rfl rfl (pr_add rfl rfl (IntWalk.i64_in _ (by omega))) ?_
      refine TF.u (v := (.int .i64 _)) rfl rfl (pr_move rfl) ?_
      refine TF.nil (nx_loop (m' := n - (i + 1)) (by omega) ?_)
      exact ⟨_, i + 1, rfl, (cutS (cutS (cutS (cutS rfl (by rw [runR_take _ _ _ (by rw [hb.length]; omega)]; rfl)) rfl) rfl) rfl), H, by omega⟩
    ·
      have hp2 := dF hq2
      refine cw_exit (ex_then (ex_then (ex_here (nx_then ?_))))
      refine cw_seq ?_
      -- region 7 sum.go:25
      refine cw_region (clf [.U, .U, .U]) [0, 1, 2] rfl (by kernel_rfl) (by decide) ?_
      refine TF.u (v := (.int .u32 _)) rfl rfl (pr_move rfl) ?_
      refine TF.u (v := (.int .u32 _)) rfl rfl (pr_inv rfl (inv32 _)) ?_
      refine TF.u (v := (.int .u32 _)) rfl rfl (pr_assign rfl) ?_
      refine TF.nil (nx_then ?_)
      refine cw_ret (fin1 (v := (.int .u32 _)) Try.results13 rfl rfl ?_)
      obtain rfl : i = n := by omega
      rw [List.take_of_length_le (Nat.le_of_eq hb.length)]
      exact ⟨rfl, H.base⟩

theorem of_ok (A : Option Addr) (n c : Nat) (bs : List UInt8) (w0 : World) (hb : RdB w0 A n c bs) (hn : n ≤ 281474976710656) :
    Calls Try.prog 11 #[.slice A n c] w0 fun e w => e = .returned (.int .u32 (((ofS bs).toNat : Nat) : Int)) ∧ Below w0.heap.size w0 w := by
  refine enter (args := [.slice A n c]) Try.func11 rfl Try.ntmps11 rfl ?_
  have H := Sat.start w0
  refine cw_seq ?_
  -- region 0 sum.go:29
  refine cw_region (clf [.U]) [0] rfl (by kernel_rfl) (by decide) ?_
  refine TF.u (v := (.int .u32 _)) rfl rfl (pr_assign rfl) ?_
  refine TF.nil (nx_then ?_)
  refine cw_seq ?_
  -- region 1 sum.go:29
  refine cw_region (clf [.U, .X, .U]) [0, 1, 2] rfl (by kernel_rfl) (by decide) ?_
  refine TF.u (v := (.slice _ _ _)) rfl rfl (pr_move rfl) ?_
  refine TF.call (args := [(.int .u32 _), (.slice _ _ _)]) Try.fn13 rfl rfl (wantF_none rfl) rfl (more_ok (BitVec.ofNat 32 0) _ _ _ _ _ (hb.below H.base) (by first | omega | (simp only [List.length_append]; omega))) ?_
  rintro e_ w ⟨rfl, hb1⟩
  refine ⟨_, rfl, ?_⟩
  replace H := H.below hb1
  refine TF.u (v := (.int .u32 _)) rfl rfl (pr_assign rfl) ?_
  refine TF.nil (nx_then ?_)
  refine cw_ret (fin1 (v := (.int .u32 _)) Try.results11 rfl rfl ?_)
  exact ⟨rfl, H.base⟩

theorem seal_ok (A : Option Addr) (n c : Nat) (bs : List UInt8) (w0 : World) (hb : RdB w0 A n c bs) (hn : n ≤ 140737488351232) :
    Calls Try.prog 17 #[.slice A n c] w0 fun e w => ∃ A1 n1 c1, e = .returned (.slice A1 n1 c1) ∧ NewB w0 w 5 A1 n1 c1 (sealS bs) := by
  refine enter (args := [.slice A n c]) Try.func17 rfl Try.ntmps17 rfl ?_
  have H := Sat.start w0
  refine cw_seq ?_
  -- region 0 sum.go:32
  refine cw_region (clf [.U]) [0] rfl (by kernel_rfl) (by decide) ?_
  refine TF.u (v := (.slice _ _ _)) rfl rfl (pr_assign rfl) ?_
  refine TF.nil (nx_then ?_)
  refine cw_seq ?_
  -- region 1 sum.go:33
  refine cw_region (clf [.U, .X, .U]) [0, 1, 2] rfl (by kernel_rfl) (by decide) ?_
  refine TF.u (v := (.slice _ _ _)) rfl rfl (pr_move rfl) ?_
  refine TF.call (args := [(.slice _ _ _)]) Try.fn11 rfl rfl (wantF_none rfl) rfl (of_ok _ _ _ _ _ (hb.below H.base) (by first | omega | (simp only [List.length_append]; omega))) ?_
  rintro e_ w ⟨rfl, hb1⟩
  refine ⟨_, rfl, ?_⟩
  replace H := H.below hb1
  refine TF.u (v := (.int .u32 _)) rfl rfl (pr_assign rfl) ?_
  refine TF.nil (nx_then ?_)
  refine cw_seq ?_
  -- region 2 sum.go:34
  refine cw_region (clf [.U, .U, .U, .X, .U]) [0, 1, 2, 3, 4] rfl (by kernel_rfl) (by decide) ?_
  refine TF.u (v := (.slice _ _ _)) rfl rfl (pr_move rfl) ?_
  refine TF.u (v := (.int .i64 _)) rfl rfl (pr_len rfl Try.underlying25 rfl) ?_
  refine TF.u (v := (.int .i64 _)) rfl rfl (pr_add rfl rfl (IntWalk.i64_in _ (by omega))) ?_
  refine TF.make (nl := 0) (nc := n + 4) (z1 := undef) H rfl (Cx.xx rfl) (wantF_none rfl) Try.underlying25 (Try.ty5) rfl (by rfl) (by omega) (by omega) (by unfold maxLen; omega) ?_
  clear H
  intro bk2 w hltbk2 hb3 H
  rw [made_u8] at H
  replace H := H.toOwn0 (q := 0) (sz := 1) (nc := n + 4) rfl (by simp [u8s_len]) (by unfold maxLen; omega)
  replace H : Sat _ _ _ [_] := H
  refine TF.u (v := (.slice _ _ _)) rfl rfl (pr_assign rfl) ?_
  refine TF.nil (nx_then ?_)
  refine cw_seq ?_
  -- region 3 sum.go:35
  refine cw_region (clf [.U, .U, .X, .U]) [0, 1, 2, 3] rfl (by kernel_rfl) (by decide) ?_
  refine TF.u (v := (.slice _ _ _)) rfl rfl (pr_move rfl) ?_
  refine TF.u (v := (.slice _ _ _)) rfl rfl (pr_move rfl) ?_
  refine TF.append (q := 0) (v := (.slice _ _ _)) H rfl rfl rfl (wantF_none rfl) Try.underlying25 (Try.ty5) rfl Try.underlying25 (.inr ⟨_, rfl⟩) rfl rfl (Src.rdB (hb.below H.base)) (by unfold maxLen; omega) (by omega) ?_
  clear H
  intro Abk2_4 cbk2_4 w ho4 H
  replace H : Sat _ _ _ [_] := H
  rw [List.nil_append] at H
  refine TF.u (v := (.slice _ _ _)) rfl rfl (pr_assign rfl) ?_
  refine TF.nil (nx_then ?_)
  refine cw_seq ?_
  -- region 4 sum.go:36
  refine cw_region (clf [.U, .U, .U, .U, .U, .U, .U, .U, .U, .U, .U, .U, .X, .X, .U]) [0, 1, 2, 3, 4, 5, 6, 7, 8, 9, 10, 11, 12, 13, 14] rfl (by kernel_rfl) (by decide) ?_
  refine TF.u (v := (.slice _ _ _)) rfl rfl (pr_move rfl) ?_
  refine TF.u (v := (.int .u32 _)) rfl rfl (pr_move rfl) ?_
  refine TF.u (v := (.int .u8 _)) rfl rfl (pr_conv Try.underlying22 Try.underlying5 rfl (byte0 _)) ?_
  refine TF.u (v := (.int .u32 _)) rfl rfl (pr_move rfl) ?_
  refine TF.u (v := (.int .u32 _)) rfl rfl (pr_shr rfl rfl (by omega) (shr32 _ 8 (by omega))) ?_
  refine TF.u (v := (.int .u8 _)) rfl rfl (pr_conv Try.underlying22 Try.underlying5 rfl (byteK _ 1 (by omega))) ?_
  refine TF.u (v := (.int .u32 _)) rfl rfl (pr_move rfl) ?_
  refine TF.u (v := (.int .u32 _)) rfl rfl (pr_shr rfl rfl (by omega) (shr32 _ 16 (by omega))) ?_
  refine TF.u (v := (.int .u8 _)) rfl rfl (pr_conv Try.underlying22 Try.underlying5 rfl (byteK _ 2 (by omega))) ?_
  refine TF.u (v := (.int .u32 _)) rfl rfl (pr_move rfl) ?_
  refine TF.u (v := (.int .u32 _)) rfl rfl (pr_shr rfl rfl (by omega) (shr32 _ 24 (by omega))) ?_
  refine TF.u (v := (.int .u8 _)) rfl rfl (pr_conv Try.underlying22 Try.underlying5 rfl (byteK _ 3 (by omega))) ?_
  refine TF.lit (vs := [(.int .u8 _), (.int .u8 _), (.int .u8 _), (.int .u8 _)]) H rfl (Cx.xx rfl) (wantF_none rfl) Try.underlying25 (Try.ty5) rfl rfl rfl rfl rfl rfl ?_
  clear H
  intro bk5 w hltbk5 hb6 H
  replace H : Sat _ _ _ (cBlk _ _ (u8s [_, _, _, _]) :: _) := H
  replace H : Sat _ _ _ [_, _] := H
  refine TF.append (q := 1) (v := (.slice _ _ _)) H rfl rfl rfl (wantF_none rfl) Try.underlying25 (Try.ty5) rfl Try.underlying25 (.inr ⟨_, rfl⟩) rfl rfl (Src.rdB ((H.blk (k := 0) rfl).own 4 rfl (by decide)).rd) (by unfold maxLen; omega) (by omega) ?_
  clear H
  intro Abk2_7 cbk2_7 w ho7 H
  replace H : Sat _ _ _ [_, _] := H
  rw [← u8s_app] at H
  refine TF.u (v := (.slice _ _ _)) rfl rfl (pr_assign rfl) ?_
  refine TF.nil (nx_then ?_)
  refine cw_ret (fin1 (v := (.slice _ _ _)) Try.results17 rfl rfl ?_)
  exact ⟨_, _, _, rfl, H.toNew (k := 1) rfl⟩

theorem open_ok (A : Option Addr) (n c : Nat) (bs : List UInt8) (w0 : World) (hb : RdB w0 A n c bs) (hn : n ≤ 140737488351232) :
    Calls Try.prog 15 #[.slice A n c] w0 fun e w => ∃ A1 n1 c1, e = .returned (.tuple #[.slice A1 n1 c1, .int .i64 (openS bs).2]) ∧ NewB w0 w 5 A1 n1 c1 (openS bs).1 := by
  refine enter (args := [.slice A n c]) Try.func15 rfl Try.ntmps15 rfl ?_
  have H := Sat.start w0
  refine cw_seq ?_
  -- region 0 sum.go:40
  refine cw_region (clf [.U, .U]) [0, 1] rfl (by kernel_rfl) (by decide) ?_
  refine TF.u (v := (.slice _ _ _)) rfl rfl (pr_assign rfl) ?_
  refine TF.u (v := (.int .i64 _)) rfl rfl (pr_assign rfl) ?_
  refine TF.nil (nx_then ?_)
  refine cw_seq ?_
  -- region 1 sum.go:41
  refine cw_region (clf [.U, .U, .U, .U]) [0, 1, 2, 3] rfl (by kernel_rfl) (by decide) ?_
  refine TF.u (v := (.slice _ _ _)) rfl rfl (pr_move rfl) ?_
  refine TF.u (v := (.int .i64 _)) rfl rfl (pr_len rfl Try.underlying25 rfl) ?_
  refine TF.u (v := (.int .i64 _)) rfl rfl (pr_sub rfl rfl (IntWalk.i64_in _ (by omega))) ?_
  refine TF.u (v := (.int .i64 _)) rfl rfl (pr_assign rfl) ?_
  refine TF.nil (nx_then ?_)
  refine cw_seq ?_
  refine cw_seq ?_
  -- region 2 sum.go:42
  refine cw_region (clf [.U, .U]) [0, 1] rfl (by kernel_rfl) (by decide) ?_
  refine TF.u (v := (.int .i64 _)) rfl rfl (pr_move rfl) ?_
  refine TF.u (v := (.bool _)) rfl rfl (pr_lss rfl rfl) ?_
  refine TF.nil (nx_then ?_)
  refine cw_cond _ rfl rfl (fun hq2 => ?_) (fun hq2 => ?_)
  ·
    have hp2 := dT hq2
    refine cw_seq ?_
    -- region 3 sum.go:43
    refine cw_region (clf [.U, .U]) [0, 1] rfl (by kernel_rfl) (by decide) ?_
    refine TF.u (v := (.slice _ _ _)) rfl rfl (pr_assign rfl) ?_
    refine TF.u (v := (.int .i64 _)) rfl rfl (pr_assign rfl) ?_
    refine TF.nil (nx_then ?_)
    refine cw_ret (rt_then (fin2 (v := (.slice _ _ _)) (v' := (.int .i64 _)) Try.results15 rfl rfl rfl rfl ?_))
    rw [openS_short (by rw [hb.length]; omega)]
    exact ⟨_, _, _, rfl, NewS.nilB H.base _ _⟩
  ·
    have hp2 := dF hq2
    refine cw_skip (nx_then ?_)
    refine cw_seq ?_
    -- region 4 sum.go:45
    refine cw_drawS H Try.wide_ (clf [.U, .U, .U, .R, .U, .U, .U, .U, .U, .R, .U, .U, .U, .U, .U, .U, .U, .R, .U, .U, .U, .U, .U, .U, .U, .R, .U, .U, .U, .U]) [0, 1, 2, 3, 4, 5, 6, 7, 8, 9, 10, 11, 12, 13, 14, 15, 16, 17, 18, 19, 20, 21, 22, 23, 24, 25, 26, 27, 28, 29] (by kernel_rfl) (by kernel_rfl) ?_
    clear H
    intro w hbr H hB
    obtain ⟨k, rfl⟩ : ∃ k, n = k + 4 := ⟨n - 4, by omega⟩
    have e4 : ((k + 4 : Nat) : Int) - 4 = (k : Int) := by omega
    rw [e4]
    have hcap := hb.cap
    refine TF.u (v := (.slice _ _ _)) rfl rfl (pr_move rfl) ?_
    refine TF.u (v := (.int .i64 _)) rfl rfl (pr_move rfl) ?_
    refine TF.idxB (hb.below H.base) rfl rfl (wantF_none rfl) Try.underlying25 (Try.ty5.s) rfl rfl (by omega) (by omega) ?_
    intro p3 hc4
    refine TF.loadr (v := (.int .u8 _)) rfl rfl (wantF_none rfl) Try.underlying5 rfl rfl (cellB hc4) ?_
    refine TF.u (v := (.int .u32 _)) rfl rfl (pr_conv Try.underlying5 Try.underlying22 rfl (rb32 _)) ?_
    refine TF.u (v := (.slice _ _ _)) rfl rfl (pr_move rfl) ?_
    refine TF.u (v := (.int .i64 _)) rfl rfl (pr_move rfl) ?_
    refine TF.u (v := (.int .i64 _)) rfl rfl (pr_add rfl rfl (IntWalk.i64_in _ (by omega))) ?_
    refine TF.idxB (hb.below H.base) rfl rfl (wantF_none rfl) Try.underlying25 (Try.ty5.s) rfl rfl (by omega) (by omega) ?_
    intro p5 hc6
    refine TF.loadr (v := (.int .u8 _)) rfl rfl (wantF_none rfl) Try.underlying5 rfl rfl (cellB hc6) ?_
    refine TF.u (v := (.int .u32 _)) rfl rfl (pr_conv Try.underlying5 Try.underlying22 rfl (rb32 _)) ?_
    refine TF.u (v := (.int .u32 _)) rfl rfl (pr_shl rfl rfl (by omega) (shl32 _ 8 (by omega))) ?_
    refine TF.u (v := (.int .u32 _)) rfl rfl (pr_or rfl rfl (o32 _ _)) ?_
    refine TF.u (v := (.slice _ _ _)) rfl rfl (pr_move rfl) ?_
    refine TF.u (v := (.int .i64 _)) rfl rfl (pr_move rfl) ?_
    refine TF.u (v := (.int .i64 _)) rfl rfl (pr_add rfl rfl (IntWalk.i64_in _ (by omega))) ?_
    refine TF.idxB (hb.below H.base) rfl rfl (wantF_none rfl) Try.underlying25 (Try.ty5.s) rfl rfl (by omega) (by omega) ?_
    intro p7 hc8
    refine TF.loadr (v := (.int .u8 _)) rfl rfl (wantF_none rfl) Try.underlying5 rfl rfl (cellB hc8) ?_
    refine TF.u (v := (.int .u32 _)) rfl rfl (pr_conv Try.underlying5 Try.underlying22 rfl (rb32 _)) ?_
    refine TF.u (v := (.int .u32 _)) rfl rfl (pr_shl rfl rfl (by omega) (shl32 _ 16 (by omega))) ?_
    refine TF.u (v := (.int .u32 _)) rfl rfl (pr_or rfl rfl (o32 _ _)) ?_
    refine TF.u (v := (.slice _ _ _)) rfl rfl (pr_move rfl) ?_
    refine TF.u (v := (.int .i64 _)) rfl rfl (pr_move rfl) ?_
    refine TF.u (v := (.int .i64 _)) rfl rfl (pr_add rfl rfl (IntWalk.i64_in _ (by omega))) ?_
    refine TF.idxB (hb.below H.base) rfl rfl (wantF_none rfl) Try.underlying25 (Try.ty5.s) rfl rfl (by omega) (by omega) ?_
    intro p9 hc10
    refine TF.loadr (v := (.int .u8 _)) rfl rfl (wantF_none rfl) Try.underlying5 rfl rfl (cellB hc10) ?_
    refine TF.u (v := (.int .u32 _)) rfl rfl (pr_conv Try.underlying5 Try.underlying22 rfl (rb32 _)) ?_
    refine TF.u (v := (.int .u32 _)) rfl rfl (pr_shl rfl rfl (by omega) (shl32 _ 24 (by omega))) ?_
    refine TF.u (v := (.int .u32 _)) rfl rfl (pr_or rfl rfl (o32 _ _)) ?_
    refine TF.u (v := (.int .u32 _)) rfl rfl (pr_assign rfl) ?_
    clear hB
    refine TF.nil (nx_then ?_)
    refine cw_seq ?_
    refine cw_seq ?_
    -- region 5 sum.go:46
    refine cw_region (clf [.U, .U, .U, .X, .U, .U]) [0, 1, 2, 3, 4, 5] rfl (by kernel_rfl) (by decide) ?_
    refine TF.u (v := (.slice _ _ _)) rfl rfl (pr_move rfl) ?_
    refine TF.u (v := (.int .i64 _)) rfl rfl (pr_move rfl) ?_
    refine TF.u (v := (.slice _ _ _)) rfl rfl (pr_cut (l := 0) (h := k) (mm := c) Try.underlying25 (Try.ty5.s) rfl (.inl ⟨rfl, rfl⟩) (.inr ⟨_, _, rfl, rfl⟩) (.inl ⟨rfl, rfl⟩) (by omega) (by omega) (by omega) (n' := k) (c' := c) (by omega) (by omega)) ?_
    have hcut11 := RdB.cut (lo := 0) (hi := k) (m := c) (n' := k) (c' := c) (hb.below H.base) (by omega) (by omega) (by omega) (by omega) (by omega) (by omega)
    refine TF.call (args := [(.slice _ _ _)]) Try.fn11 rfl rfl (wantF_none rfl) rfl (of_ok _ _ _ _ _ hcut11 (by first | omega | (simp only [List.length_append]; omega))) ?_
    rintro e_ w ⟨rfl, hb12⟩
    refine ⟨_, rfl, ?_⟩
    replace hcut11 := hcut11.below hb12
    replace H := H.below hb12
    refine TF.u (v := (.int .u32 _)) rfl rfl (pr_move rfl) ?_
    refine TF.u (v := (.bool _)) rfl rfl (pr_neq rfl rfl) ?_
    refine TF.nil (nx_then ?_)
    refine cw_cond _ rfl rfl (fun hq14 => ?_) (fun hq14 => ?_)
    ·
      have hp14 := dF (nT hq14)
      refine cw_seq ?_
      -- region 6 sum.go:47
      refine cw_region (clf [.U, .U]) [0, 1] rfl (by kernel_rfl) (by decide) ?_
      refine TF.u (v := (.slice _ _ _)) rfl rfl (pr_assign rfl) ?_
      refine TF.u (v := (.int .i64 _)) rfl rfl (pr_assign rfl) ?_
      refine TF.nil (nx_then ?_)
      refine cw_ret (rt_then (fin2 (v := (.slice _ _ _)) (v' := (.int .i64 _)) Try.results15 rfl rfl rfl rfl ?_))
      rw [openS_no hb.length (toNat_ne (by assumption))]
      exact ⟨_, _, _, rfl, NewS.nilB H.base _ _⟩
    ·
      have hp14 := dT (nF hq14)
      refine cw_skip (nx_then ?_)
      refine cw_seq ?_
      -- region 7 sum.go:49
      refine cw_drawS H Try.wide_ (clf [.U, .P, .U, .U, .U, .X, .U, .U]) [0, 2, 3, 4, 1, 5, 6, 7] (by kernel_rfl) (by kernel_rfl) ?_
      clear H
      intro w hbr H hB
      replace hcut11 := hcut11.below hbr
      refine TF.u (v := (.int .i64 _)) rfl rfl (pr_move rfl) ?_
      refine TF.u (v := (.slice _ _ _)) rfl rfl (pr_move rfl) ?_
      refine TF.u (v := (.int .i64 _)) rfl rfl (pr_move rfl) ?_
      refine TF.u (v := (.slice _ _ _)) rfl rfl (pr_cut (l := 0) (h := k) (mm := c) Try.underlying25 (Try.ty5.s) rfl (.inl ⟨rfl, rfl⟩) (.inr ⟨_, _, rfl, rfl⟩) (.inl ⟨rfl, rfl⟩) (by omega) (by omega) (by omega) (n' := k) (c' := c) (by omega) (by omega)) ?_
      have hcut15 := RdB.cut (lo := 0) (hi := k) (m := c) (n' := k) (c' := c) (hb.below H.base) (by omega) (by omega) (by omega) (by omega) (by omega) (by omega)
      refine TF.make (nl := 0) (nc := k) (z1 := undef) H rfl (Cx.re hB rfl) (wantF_none rfl) Try.underlying25 (Try.ty5) rfl rfl (by omega) (by omega) (by unfold maxLen; omega) ?_
      clear H
      intro bk16 w hltbk16 hb17 H
      replace hB := Below.refl w.heap.size w
      replace hcut11 := hcut11.below hb17
      replace hcut15 := hcut15.below hb17
      rw [made_u8] at H
      replace H := H.toOwn0 (q := 0) (sz := 1) (nc := k) rfl (by simp [u8s_len]) (by unfold maxLen; omega)
      replace H : Sat _ _ _ [_] := H
      refine TF.append (q := 0) (v := (.slice _ _ _)) H rfl rfl rfl (wantF_none rfl) Try.underlying25 (Try.ty5) rfl Try.underlying25 (.inr ⟨_, rfl⟩) rfl rfl (Src.rdB hcut15) (by unfold maxLen; omega) (by omega) ?_
      clear H
      intro Abk16_18 cbk16_18 w ho18 H
      replace H : Sat _ _ _ [_] := H
      rw [List.nil_append] at H
      refine TF.u (v := (.slice _ _ _)) rfl rfl (pr_assign rfl) ?_
      refine TF.u (v := (.int .i64 _)) rfl rfl (pr_assign rfl) ?_
      clear hB
      refine TF.nil (nx_then ?_)
      refine cw_ret (fin2 (v := (.slice _ _ _)) (v' := (.int .i64 _)) Try.results15 rfl rfl rfl rfl ?_)
      rw [openS_yes hb.length (toNat_eq (by assumption))]
      exact ⟨_, _, _, rfl, H.toNew (k := 0) rfl⟩

theorem rrun_ok (r : R) (b : List UInt8) (w0 : World) (hb : b.length ≤ 140737488355328) :
    Calls Try.prog 19 #[.int .u64 (((r).toNat : Nat) : Int), T b] w0 fun e w => e = .returned (.int .u64 (((runR r b).toNat : Nat) : Int)) ∧ Below w0.heap.size w0 w := by
  refine enter (args := [.int .u64 (((r).toNat : Nat) : Int), T b]) Try.func19 rfl Try.ntmps19 rfl ?_
  have H := Sat.start w0
  refine cw_seq ?_
  -- region 0 ref.go:5
  refine cw_region (clf [.U]) [0] rfl (by kernel_rfl) (by decide) ?_
  refine TF.u (v := (.int .u64 _)) rfl rfl (pr_assign rfl) ?_
  refine TF.nil (nx_then ?_)
  refine cw_seq ?_
  refine cw_seq ?_
  -- region 1 ref.go:6
  refine cw_region (clf [.U]) [0] rfl (by kernel_rfl) (by decide) ?_
  refine TF.u (v := (.int .i64 _)) rfl rfl (pr_assign rfl) ?_
  refine TF.nil (nx_then ?_)
  refine cw_block ?_
  refine cw_loop (fun m f w => ∃ (g_ : Nat → Value) (i : Nat), m = 8 * b.length - i ∧ f = (upd (upd (upd g_ 0 (.int .u64 (((runTo (bitAt b) r i).toNat : Nat) : Int))) 1 (T b)) 5 (.int .i64 (i : Int))) ∧ Sat [] w0 w [] ∧ i ≤ 8 * b.length) (8 * b.length - 0) ?_ ?_
  ·
    exact ⟨_, 0, rfl, (cutS (cutS (cutS rfl rfl) rfl) rfl), H, Nat.zero_le _⟩
  ·
    clear H
    rintro m_ f_ w ⟨g_, i, rfl, rfl, H, hi⟩
    refine cw_seq ?_
    refine cw_seq ?_
    -- region 2 ref.go:6
    refine cw_region (clf [.U, .U, .U, .U, .U]) [0, 1, 2, 3, 4] rfl (by kernel_rfl) (by decide) ?_
    refine TF.u (v := (.int .i64 _)) rfl rfl (pr_move rfl) ?_
    refine TF.u (v := (T _)) rfl rfl (pr_move rfl) ?_
    refine TF.u (v := (.int .i64 _)) rfl rfl (pr_slen rfl Try.underlying9 rfl) ?_
    refine TF.u (v := (.int .i64 _)) rfl rfl (pr_mul rfl rfl (IntWalk.i64_in _ (by omega))) ?_
    refine TF.u (v := (.bool _)) rfl rfl (pr_lss rfl rfl) ?_
    refine TF.nil (nx_then ?_)
    refine cw_cond _ rfl rfl (fun hq2 => ?_) (fun hq2 => ?_)
    ·
      have hp2 := dT hq2
      refine cw_skip (nx_then ?_)
      refine cw_seq ?_
      refine cw_block ?_
      refine cw_seq ?_
      -- region 4 ref.go:7
      refine cw_region (clf [.U, .U, .U, .U, .U, .U, .U, .U, .U, .U, .U]) [0, 1, 2, 3, 4, 5, 6, 7, 8, 9, 10] rfl (by kernel_rfl) (by decide) ?_
      refine TF.u (v := (T _)) rfl rfl (pr_move rfl) ?_
      refine TF.u (v := (.int .i64 _)) rfl rfl (pr_move rfl) ?_
      refine TF.u (v := (.int .i64 _)) rfl rfl (pr_quo rfl rfl (by omega) (show _ = ((i / 8 : Nat) : Int) from IntWalk.i64_in _ (by have : ((i : Int).tdiv 8) = ((i / 8 : Nat) : Int) := rfl; omega))) ?_
      refine TF.u (v := (.int .u8 _)) rfl rfl (pr_sindex Try.underlying9 rfl rfl (by omega) (by omega) rfl) ?_
      refine TF.u (v := (.int .u64 _)) rfl rfl (pr_conv Try.underlying5 Try.underlying42 rfl (IntWalk.u64_in _ (by have := (b.getD ((i / 8 : Nat) : Int).toNat 0).toNat_lt; omega))) ?_
      refine TF.u (v := (.int .i64 _)) rfl rfl (pr_move rfl) ?_
      refine TF.u (v := (.int .i64 _)) rfl rfl (pr_rem rfl rfl (by omega) (show _ = ((i % 8 : Nat) : Int) from rfl)) ?_
      refine TF.u (v := (.int .u64 _)) rfl rfl (pr_conv Try.underlying3 Try.underlying40 rfl (IntWalk.u64_in _ (by omega))) ?_
      refine TF.u (v := (.int .u64 _)) rfl rfl (pr_shr rfl rfl (by omega) rfl) ?_
      refine TF.u (v := (.int .u64 _)) rfl rfl (pr_rem rfl rfl (by omega) bit64) ?_
      refine TF.u (v := (.int .u64 _)) rfl rfl (pr_assign rfl) ?_
      refine TF.nil (nx_then ?_)
      refine cw_seq ?_
      -- region 5 ref.go:8
      refine cw_region (clf [.U, .U, .U]) [0, 1, 2] rfl (by kernel_rfl) (by decide) ?_
      refine TF.u (v := (.int .u64 _)) rfl rfl (pr_move rfl) ?_
      refine TF.u (v := (.int .u64 _)) rfl rfl (pr_rem rfl rfl (by omega) (low64 _)) ?_
      refine TF.u (v := (.int .u64 _)) rfl rfl (pr_assign rfl) ?_
      refine TF.nil (nx_then ?_)
      refine cw_seq ?_
      -- region 6 ref.go:9
      refine cw_region (clf [.U, .U, .U]) [0, 1, 2] rfl (by kernel_rfl) (by decide) ?_
      refine TF.u (v := (.int .u64 _)) rfl rfl (pr_move rfl) ?_
      refine TF.u (v := (.int .u64 _)) rfl rfl (pr_quo rfl rfl (by omega) (half64 _)) ?_
      refine TF.u (v := (.int .u64 _)) rfl rfl (pr_assign rfl) ?_
      refine TF.nil (nx_then ?_)
      refine cw_seq ?_
      -- region 7 ref.go:10
      refine cw_region (clf [.U, .U, .U]) [0, 1, 2] rfl (by kernel_rfl) (by decide) ?_
      refine TF.u (v := (.int .u64 _)) rfl rfl (pr_move rfl) ?_
      refine TF.u (v := (.int .u64 _)) rfl rfl (pr_move rfl) ?_
      refine TF.u (v := (.bool _)) rfl rfl (pr_neq rfl rfl) ?_
      refine TF.nil (nx_then ?_)
      refine cw_cond _ rfl rfl (fun hq4 => ?_) (fun hq4 => ?_)
      ·
        have hp4 := dF (nT hq4)
        -- region 8 ref.go:11
        refine cw_region (clf [.U, .U, .U]) [0, 1, 2] rfl (by kernel_rfl) (by decide) ?_
        
        refine TF.u (v := (.int .u64 _)) rfl rfl (pr_move rfl) ?_
        refine TF.u (v := (.int .u64 _)) rfl rfl (pr_xor rfl rfl (xp64 _)) ?_
        refine TF.u (v := (.int .u64 _)) rfl rfl (pr_assign rfl) ?_
        refine TF.nil (nx_block (nx_then ?_))
        -- region 3 ref.go:6
        refine cw_region (clf [.U, .U, .U]) [0, 1, 2] rfl (by kernel_rfl) (by decide) ?_
        refine TF.u (v := (.int .i64 _)) rfl rfl (pr_move rfl) ?_
        refine TF.u (v := (.int .i64 _)) rfl rfl (pr_add rfl rfl (IntWalk.i64_in _ (by omega))) ?_
        refine TF.u (v := (.int .i64 _)) rfl rfl (pr_assign rfl) ?_
        refine TF.nil (nx_loop (m' := 8 * b.length - (i + 1)) (by omega) ?_)
        exact ⟨_, i + 1, rfl, (cutS (cutS (cutS rfl (by rw [runTo, step_ne (by assumption)]; rfl)) rfl) rfl), H, by omega⟩
      ·
        have hp4 := dT (nF hq4)
        refine cw_skip (nx_block (nx_then ?_))
        -- region 3 ref.go:6
        refine cw_region (clf [.U, .U, .U]) [0, 1, 2] rfl (by kernel_rfl) (by decide) ?_
        refine TF.u (v := (.int .i64 _)) rfl rfl (pr_move rfl) ?_
        refine TF.u (v := (.int .i64 _)) rfl rfl (pr_add rfl rfl (IntWalk.i64_in _ (by omega))) ?_
        refine TF.u (v := (.int .i64 _)) rfl rfl (pr_assign rfl) ?_
        refine TF.nil (nx_loop (m' := 8 * b.length - (i + 1)) (by omega) ?_)
        exact ⟨_, i + 1, rfl, (cutS (cutS (cutS rfl (by rw [runTo, step_eq (by assumption)]; rfl)) rfl) rfl), H, by omega⟩
    ·
      have hp2 := dF hq2
      refine cw_exit (ex_then (ex_then (ex_here (nx_then ?_))))
      refine cw_seq ?_
      -- region 9 ref.go:14
      refine cw_region (clf [.U, .U]) [0, 1] rfl (by kernel_rfl) (by decide) ?_
      refine TF.u (v := (.int .u64 _)) rfl rfl (pr_move rfl) ?_
      refine TF.u (v := (.int .u64 _)) rfl rfl (pr_assign rfl) ?_
      refine TF.nil (nx_then ?_)
      refine cw_ret (fin1 (v := (.int .u64 _)) Try.results19 rfl rfl ?_)
      obtain rfl : i = 8 * b.length := by omega
      exact ⟨by rw [runR_bits], H.base⟩

theorem rof_ok (b : List UInt8) (w0 : World) (hb : b.length ≤ 140737488355328) :
    Calls Try.prog 12 #[T b] w0 fun e w => e = .returned (.int .u32 (((ofS b).toNat : Nat) : Int)) ∧ Below w0.heap.size w0 w := by
  refine enter (args := [T b]) Try.func12 rfl Try.ntmps12 rfl ?_
  have H := Sat.start w0
  refine cw_seq ?_
  -- region 0 ref.go:18
  refine cw_region (clf [.U]) [0] rfl (by kernel_rfl) (by decide) ?_
  refine TF.u (v := (.int .u32 _)) rfl rfl (pr_assign rfl) ?_
  refine TF.nil (nx_then ?_)
  refine cw_seq ?_
  -- region 1 ref.go:18
  refine cw_region (clf [.U, .X, .U, .U, .U]) [0, 1, 2, 3, 4] rfl (by kernel_rfl) (by decide) ?_
  refine TF.u (v := (T _)) rfl rfl (pr_move rfl) ?_
  refine TF.call (args := [(.int .u64 _), (T _)]) Try.fn19 rfl rfl (wantF_none rfl) rfl (rrun_ok (~~~ 0#32) _ _ (by omega)) ?_
  rintro e_ w ⟨rfl, hb1⟩
  refine ⟨_, rfl, ?_⟩
  replace H := H.below hb1
  refine TF.u (v := (.int .u64 _)) rfl rfl (pr_sub rfl rfl (sub64 _)) ?_
  refine TF.u (v := (.int .u32 _)) rfl rfl (pr_conv Try.underlying42 Try.underlying22 rfl (conv64 _)) ?_
  refine TF.u (v := (.int .u32 _)) rfl rfl (pr_assign rfl) ?_
  refine TF.nil (nx_then ?_)
  refine cw_ret (fin1 (v := (.int .u32 _)) Try.results12 rfl rfl ?_)
  exact ⟨rfl, H.base⟩

theorem rmore_ok (s : R) (b : List UInt8) (w0 : World) (hb : b.length ≤ 140737488355328) :
    Calls Try.prog 14 #[.int .u32 (((s).toNat : Nat) : Int), T b] w0 fun e w => e = .returned (.int .u32 (((moreS s b).toNat : Nat) : Int)) ∧ Below w0.heap.size w0 w := by
  refine enter (args := [.int .u32 (((s).toNat : Nat) : Int), T b]) Try.func14 rfl Try.ntmps14 rfl ?_
  have H := Sat.start w0
  refine cw_seq ?_
  -- region 0 ref.go:21
  refine cw_region (clf [.U]) [0] rfl (by kernel_rfl) (by decide) ?_
  refine TF.u (v := (.int .u32 _)) rfl rfl (pr_assign rfl) ?_
  refine TF.nil (nx_then ?_)
  refine cw_seq ?_
  -- region 1 ref.go:21
  refine cw_region (clf [.U, .U, .U, .U, .X, .U, .U, .U]) [0, 1, 2, 3, 4, 5, 6, 7] rfl (by kernel_rfl) (by decide) ?_
  refine TF.u (v := (.int .u32 _)) rfl rfl (pr_move rfl) ?_
  refine TF.u (v := (.int .u64 _)) rfl rfl (pr_conv Try.underlying22 Try.underlying42 rfl (up64 _)) ?_
  refine TF.u (v := (.int .u64 _)) rfl rfl (pr_sub rfl rfl (sub64 _)) ?_
  refine TF.u (v := (T _)) rfl rfl (pr_move rfl) ?_
  refine TF.call (args := [(.int .u64 _), (T _)]) Try.fn19 rfl rfl (wantF_none rfl) rfl (rrun_ok _ _ _ (by omega)) ?_
  rintro e_ w ⟨rfl, hb1⟩
  refine ⟨_, rfl, ?_⟩
  replace H := H.below hb1
  refine TF.u (v := (.int .u64 _)) rfl rfl (pr_sub rfl rfl (sub64 _)) ?_
  refine TF.u (v := (.int .u32 _)) rfl rfl (pr_conv Try.underlying42 Try.underlying22 rfl (conv64 _)) ?_
  refine TF.u (v := (.int .u32 _)) rfl rfl (pr_assign rfl) ?_
  refine TF.nil (nx_then ?_)
  refine cw_ret (fin1 (v := (.int .u32 _)) Try.results14 rfl rfl ?_)
  exact ⟨rfl, H.base⟩

theorem rseal_ok (b : List UInt8) (w0 : World) (hb : b.length ≤ 140737488351232) :
    Calls Try.prog 18 #[T b] w0 fun e w => e = .returned (T (sealS b)) ∧ Below w0.heap.size w0 w := by
  refine enter (args := [T b]) Try.func18 rfl Try.ntmps18 rfl ?_
  have H := Sat.start w0
  refine cw_seq ?_
  -- region 0 ref.go:24
  refine cw_region (clf [.U]) [0] rfl (by kernel_rfl) (by decide) ?_
  refine TF.u (v := (T _)) rfl rfl (pr_assign rfl) ?_
  refine TF.nil (nx_then ?_)
  refine cw_seq ?_
  -- region 1 ref.go:25
  refine cw_region (clf [.U, .X, .U]) [0, 1, 2] rfl (by kernel_rfl) (by decide) ?_
  refine TF.u (v := (T _)) rfl rfl (pr_move rfl) ?_
  refine TF.call (args := [(T _)]) Try.fn12 rfl rfl (wantF_none rfl) rfl (rof_ok _ _ (by omega)) ?_
  rintro e_ w ⟨rfl, hb1⟩
  refine ⟨_, rfl, ?_⟩
  replace H := H.below hb1
  refine TF.u (v := (.int .u32 _)) rfl rfl (pr_assign rfl) ?_
  refine TF.nil (nx_then ?_)
  refine cw_seq ?_
  -- region 2 ref.go:26
  refine cw_region (clf [.U, .U]) [0, 1] rfl (by kernel_rfl) (by decide) ?_
  refine TF.u (v := (T _)) rfl rfl (pr_move rfl) ?_
  refine TF.u (v := (T _)) rfl rfl (pr_assign rfl) ?_
  refine TF.nil (nx_then ?_)
  refine cw_seq ?_
  refine cw_seq ?_
  -- region 3 ref.go:27
  refine cw_region (clf [.U]) [0] rfl (by kernel_rfl) (by decide) ?_
  refine TF.u (v := (.int .i64 _)) rfl rfl (pr_assign rfl) ?_
  refine TF.nil (nx_then ?_)
  refine cw_block ?_
  refine cw_loop (fun m f w => ∃ (g_ : Nat → Value) (i : Nat), m = 4 - i ∧ f = (upd (upd (upd g_ 3 (.int .u32 (((ofS b).toNat / 256 ^ i : Nat) : Int))) 4 (T (b ++ (le4 (ofS b)).take i))) 5 (.int .i64 (i : Int))) ∧ Sat [] w0 w [] ∧ i ≤ 4) (4 - 0) ?_ ?_
  ·
    exact ⟨_, 0, rfl, (cutS (cutS (cutS rfl (by rw [Nat.pow_zero, Nat.div_one]; rfl)) (by rw [List.take_zero, List.append_nil]; rfl)) rfl), H, Nat.zero_le _⟩
  ·
    clear H
    rintro m_ f_ w ⟨g_, i, rfl, rfl, H, hi⟩
    refine cw_seq ?_
    refine cw_seq ?_
    -- region 4 ref.go:27
    refine cw_region (clf [.U, .U]) [0, 1] rfl (by kernel_rfl) (by decide) ?_
    refine TF.u (v := (.int .i64 _)) rfl rfl (pr_move rfl) ?_
    refine TF.u (v := (.bool _)) rfl rfl (pr_lss rfl rfl) ?_
    refine TF.nil (nx_then ?_)
    refine cw_cond _ rfl rfl (fun hq3 => ?_) (fun hq3 => ?_)
    ·
      have hp3 := dT hq3
      refine cw_skip (nx_then ?_)
      refine cw_seq ?_
      refine cw_block ?_
      refine cw_seq ?_
      -- region 6 ref.go:28
      refine cw_region (clf [.U, .U, .U, .U, .X, .X, .U, .U]) [0, 1, 2, 3, 4, 5, 6, 7] rfl (by kernel_rfl) (by decide) ?_
      have hq4 := quo4 (ofS b) i
      have hl4 : ((le4 (ofS b)).take i).length ≤ 4 := by rw [List.length_take]; simp only [le4, List.length_cons, List.length_nil]; omega
      refine TF.u (v := (T _)) rfl rfl (pr_move rfl) ?_
      refine TF.u (v := (.int .u32 _)) rfl rfl (pr_move rfl) ?_
      refine TF.u (v := (.int .u32 _)) rfl rfl (pr_rem rfl rfl (by omega) (rem4 _ _)) ?_
      refine TF.u (v := (.int .u8 _)) rfl rfl (pr_conv Try.underlying22 Try.underlying5 rfl (conv_u8 (a := (ofS b).toNat / 256 ^ i))) ?_
      refine TF.lit (vs := [(.int .u8 _)]) H rfl (Cx.xx rfl) (wantF_none rfl) Try.underlying25 (Try.ty5) rfl rfl rfl rfl rfl rfl ?_
      clear H
      intro bk4 w hltbk4 hb5 H
      replace H : Sat _ _ _ (cBlk _ _ (u8s [_]) :: _) := H
      replace H : Sat _ _ _ [_] := H
      refine TF.tostr ((H.blk (k := 0) rfl).own 1 rfl (by decide)).rd rfl rfl (wantF_none rfl) Try.underlying25 Try.underlying5 Try.underlying9 rfl ?_
      refine TF.u (v := (T _)) rfl rfl (pr_sadd rfl rfl (by simp only [List.length_append, List.length_cons, List.length_nil]; omega)) ?_
      refine TF.u (v := (T _)) rfl rfl (pr_assign rfl) ?_
      refine TF.nil (nx_then ?_)
      -- region 7 ref.go:29
      refine cw_region (clf [.U, .U, .U]) [0, 1, 2] rfl (by kernel_rfl) (by decide) ?_
      refine TF.u (v := (.int .u32 _)) rfl rfl (pr_move rfl) ?_
      refine TF.u (v := (.int .u32 _)) rfl rfl (pr_quo rfl rfl (by omega) hq4) ?_
      refine TF.u (v := (.int .u32 _)) rfl rfl (pr_assign rfl) ?_
      refine TF.nil (nx_block (nx_then ?_))
      -- region 5 ref.go:27
      refine cw_region (clf [.U, .U, .U]) [0, 1, 2] rfl (by kernel_rfl) (by decide) ?_
      refine TF.u (v := (.int .i64 _)) rfl rfl (pr_move rfl) ?_
      refine TF.u (v := (.int .i64 _)) rfl rfl (pr_add rfl rfl (IntWalk.i64_in _ (by omega))) ?_
      refine TF.u (v := (.int .i64 _)) rfl rfl (pr_assign rfl) ?_
      refine TF.nil (nx_loop (m' := 4 - (i + 1)) (by omega) ?_)
      exact ⟨_, i + 1, rfl, (cutS (cutS (cutS rfl rfl) (by rw [le4_take (by omega), ← List.append_assoc]; rfl)) rfl), (H.del 0), by omega⟩
    ·
      have hp3 := dF hq3
      refine cw_exit (ex_then (ex_then (ex_here (nx_then ?_))))
      refine cw_seq ?_
      -- region 8 ref.go:31
      refine cw_region (clf [.U, .U]) [0, 1] rfl (by kernel_rfl) (by decide) ?_
      refine TF.u (v := (T _)) rfl rfl (pr_move rfl) ?_
      refine TF.u (v := (T _)) rfl rfl (pr_assign rfl) ?_
      refine TF.nil (nx_then ?_)
      refine cw_ret (fin1 (v := (T _)) Try.results18 rfl rfl ?_)
      obtain rfl : i = 4 := by omega
      exact ⟨rfl, H.base⟩

theorem ropen_ok (b : List UInt8) (w0 : World) (hb : b.length ≤ 140737488351232) :
    Calls Try.prog 16 #[T b] w0 fun e w => e = .returned (.tuple #[T (openS b).1, .int .i64 (openS b).2]) ∧ Below w0.heap.size w0 w := by
  refine enter (args := [T b]) Try.func16 rfl Try.ntmps16 rfl ?_
  have H := Sat.start w0
  refine cw_seq ?_
  -- region 0 ref.go:35
  refine cw_region (clf [.U, .U]) [0, 1] rfl (by kernel_rfl) (by decide) ?_
  refine TF.u (v := (T _)) rfl rfl (pr_assign rfl) ?_
  refine TF.u (v := (.int .i64 _)) rfl rfl (pr_assign rfl) ?_
  refine TF.nil (nx_then ?_)
  refine cw_seq ?_
  refine cw_seq ?_
  -- region 1 ref.go:36
  refine cw_region (clf [.U, .U, .U]) [0, 1, 2] rfl (by kernel_rfl) (by decide) ?_
  refine TF.u (v := (T _)) rfl rfl (pr_move rfl) ?_
  refine TF.u (v := (.int .i64 _)) rfl rfl (pr_slen rfl Try.underlying9 rfl) ?_
  refine TF.u (v := (.bool _)) rfl rfl (pr_lss rfl rfl) ?_
  refine TF.nil (nx_then ?_)
  refine cw_cond _ rfl rfl (fun hq2 => ?_) (fun hq2 => ?_)
  ·
    have hp2 := dT hq2
    refine cw_seq ?_
    -- region 2 ref.go:37
    refine cw_region (clf [.U, .U]) [0, 1] rfl (by kernel_rfl) (by decide) ?_
    refine TF.u (v := (T _)) rfl rfl (pr_assign rfl) ?_
    refine TF.u (v := (.int .i64 _)) rfl rfl (pr_assign rfl) ?_
    refine TF.nil (nx_then ?_)
    refine cw_ret (rt_then (fin2 (v := (T _)) (v' := (.int .i64 _)) Try.results16 rfl rfl rfl rfl ?_))
    rw [openS_short (by omega)]
    exact ⟨rfl, H.base⟩
  ·
    have hp2 := dF hq2
    refine cw_skip (nx_then ?_)
    refine cw_seq ?_
    -- region 3 ref.go:39
    refine cw_region (clf [.U, .U, .U, .U, .U, .U]) [0, 1, 2, 3, 4, 5] rfl (by kernel_rfl) (by decide) ?_
    obtain ⟨k, hk0⟩ : ∃ k, b.length = k + 4 := ⟨b.length - 4, by omega⟩
    have hk : b.length - 4 = k := by omega
    refine TF.u (v := (T _)) rfl rfl (pr_move rfl) ?_
    refine TF.u (v := (T _)) rfl rfl (pr_move rfl) ?_
    refine TF.u (v := (.int .i64 _)) rfl rfl (pr_slen rfl Try.underlying9 rfl) ?_
    refine TF.u (v := (.int .i64 _)) rfl rfl (pr_sub rfl rfl (show _ = (k : Int) by rw [hk0]; exact (IntWalk.i64_in _ (by omega)).trans (by omega))) ?_
    refine TF.u (v := (T _)) rfl rfl (pr_sslice (l := 0) (h := k) Try.underlying9 rfl (.inl ⟨rfl, rfl⟩) (.inr ⟨_, _, rfl, rfl⟩) (by omega) (by omega)) ?_
    refine TF.u (v := (T _)) rfl rfl (pr_assign rfl) ?_
    refine TF.nil (nx_then ?_)
    refine cw_seq ?_
    refine cw_seq ?_
    -- region 4 ref.go:40
    refine cw_region (clf [.U, .X, .U, .U]) [0, 1, 2, 3] rfl (by kernel_rfl) (by decide) ?_
    refine TF.u (v := (T _)) rfl rfl (pr_move rfl) ?_
    refine TF.call (args := [(T _)]) Try.fn18 rfl rfl (wantF_none rfl) rfl (rseal_ok _ _ (by first | omega | (simp; omega))) ?_
    rintro e_ w ⟨rfl, hb3⟩
    refine ⟨_, rfl, ?_⟩
    replace H := H.below hb3
    refine TF.u (v := (T _)) rfl rfl (pr_move rfl) ?_
    refine TF.u (v := (.bool _)) rfl rfl (pr_sneq rfl rfl) ?_
    refine TF.nil (nx_then ?_)
    refine cw_cond _ rfl rfl (fun hq5 => ?_) (fun hq5 => ?_)
    ·
      have hp5 := eF (nT hq5)
      refine cw_seq ?_
      -- region 5 ref.go:41
      refine cw_region (clf [.U, .U]) [0, 1] rfl (by kernel_rfl) (by decide) ?_
      refine TF.u (v := (T _)) rfl rfl (pr_assign rfl) ?_
      refine TF.u (v := (.int .i64 _)) rfl rfl (pr_assign rfl) ?_
      refine TF.nil (nx_then ?_)
      refine cw_ret (rt_then (fin2 (v := (T _)) (v' := (.int .i64 _)) Try.results16 rfl rfl rfl rfl ?_))
      rw [openS, if_neg (by omega), if_neg (by rw [hk]; assumption)]
      exact ⟨rfl, H.base⟩
    ·
      have hp5 := eT (nF hq5)
      refine cw_skip (nx_then ?_)
      refine cw_seq ?_
      -- region 6 ref.go:43
      refine cw_region (clf [.U, .U, .U]) [0, 1, 2] rfl (by kernel_rfl) (by decide) ?_
      refine TF.u (v := (T _)) rfl rfl (pr_move rfl) ?_
      refine TF.u (v := (T _)) rfl rfl (pr_assign rfl) ?_
      refine TF.u (v := (.int .i64 _)) rfl rfl (pr_assign rfl) ?_
      refine TF.nil (nx_then ?_)
      refine cw_ret (fin2 (v := (T _)) (v' := (.int .i64 _)) Try.results16 rfl rfl rfl rfl ?_)
      rw [openS, if_neg (by omega), if_pos (by rw [hk]; assumption), hk]
      exact ⟨rfl, H.base⟩

theorem awake_ok (w0 : World) : Calls Try.prog 10 #[] w0 fun e w => e = .returned (.bool true) ∧ Below w0.heap.size w0 w := by
  refine enter (args := []) Try.func10 rfl Try.ntmps10 rfl ?_
  have H := Sat.start w0
  refine cw_seq ?_
  -- region 0 law.go:14
  refine cw_region (clf [.U]) [0] rfl (by kernel_rfl) (by decide) ?_
  refine TF.u (v := (.bool _)) rfl rfl (pr_assign rfl) ?_
  refine TF.nil (nx_then ?_)
  refine cw_seq ?_
  -- region 1 law.go:14
  refine cw_region (clf [.X, .X, .X, .U, .U]) [0, 1, 2, 3, 4] rfl (by kernel_rfl) (by decide) ?_
  refine TF.lit (vs := [(.int .u8 _), (.int .u8 _), (.int .u8 _), (.int .u8 _), (.int .u8 _), (.int .u8 _), (.int .u8 _), (.int .u8 _), (.int .u8 _)]) H rfl (Cx.xx rfl) (wantF_none rfl) Try.underlying25 (Try.ty5) rfl rfl rfl rfl rfl rfl ?_
  clear H
  intro bk1 w hltbk1 hb2 H
  replace H : Sat _ _ _ (cBlk _ _ (u8s [49, 50, 51, 52, 53, 54, 55, 56, 57]) :: _) := H
  replace H : Sat _ _ _ [_] := H
  refine TF.mark (q := 0) H rfl rfl (Cx.xx_ rfl) (wantF_none rfl) Try.underlying25 Try.underlying5 rfl rfl rfl (by decide) ?_
  clear H
  intro w ho3 H
  replace H : Sat _ _ _ [_] := H
  refine TF.call (args := [(.slice _ _ _)]) Try.fn11 rfl rfl (wantF_none rfl) rfl (of_ok _ _ _ _ _ (H.rd (k := 0) rfl) (by first | omega | (simp only [List.length_append]; omega))) ?_
  rintro e_ w ⟨rfl, hb4⟩
  refine ⟨_, rfl, ?_⟩
  replace H := H.below hb4
  refine TF.u (v := (.bool _)) rfl rfl (pr_eql rfl rfl) ?_
  refine TF.u (v := (.bool _)) rfl rfl (pr_assign rfl) ?_
  refine TF.nil (nx_then ?_)
  refine cw_ret (fin1 (v := (.bool _)) Try.results10 rfl rfl ?_)
  exact ⟨by rw [crc_check]; rfl, H.base⟩
end Go.Proofs.Ytmfepnngjpmljaa
