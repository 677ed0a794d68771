/- What the functions of this seat compute, each walked once (no condition but those in each statement): pack.behind, pack.Fits, pack.Put, pack.Take, pack.TakeText, pack.PutText, quaysideref01.Fits, quaysideref01.Number, quaysideref01.Put, quaysideref01.Take, quaysideref01.PutText, quaysideref01.TakeText, quaysidelaw01.awake -/
import Derived.Test.YtkcjgkbcmhgloaaCore7
import Derived.Test.YtkcjgkbcmhgloaaMath
import Derived.Test.YtkcjgkbcmhgloaaMath1
import Derived.Test.YtkcjgkbcmhgloaaProg
import Derived.KernelRfl
set_option linter.unusedSimpArgs false
set_option linter.unusedVariables false
set_option maxRecDepth 10000
namespace Go.Proofs.Ytkcjgkbcmhgloaa
open Go.Q Go.RowKit Go.Proofs
theorem Try.wide_ : Go.Proofs.Try.prog.follows .mixedOrders = true := by kernel_rfl
theorem Try.ty5 : Ty Try.prog 5 (.int .u8) (.int .u8 0) 1 1 := ty_mk (by kernel_rfl) (by kernel_rfl)
theorem Try.fn11 : Fnc Try.prog 11 Try.f11 := ⟨Try.func11, by kernel_rfl, by kernel_rfl⟩
theorem Try.fn13 : Fnc Try.prog 13 Try.f13 := ⟨Try.func13, by kernel_rfl, by kernel_rfl⟩
theorem Try.fn14 : Fnc Try.prog 14 Try.f14 := ⟨Try.func14, by kernel_rfl, by kernel_rfl⟩
theorem Try.fn15 : Fnc Try.prog 15 Try.f15 := ⟨Try.func15, by kernel_rfl, by kernel_rfl⟩
theorem Try.fn21 : Fnc Try.prog 21 Try.f21 := ⟨Try.func21, by kernel_rfl, by kernel_rfl⟩
theorem Try.fn22 : Fnc Try.prog 22 Try.f22 := ⟨Try.func22, by kernel_rfl, by kernel_rfl⟩
theorem behind_ok (A : Option Addr) (n c : Nat) (bs : List UInt8) (more : Nat) (w0 : World) (hb : RdB w0 A n c bs) (hn : n ≤ 140737488351232) (hm : more ≤ 140737488355328) :
    Calls Try.prog 21 #[.slice A n c, .int .i64 (more : Int)] w0 fun e w => ∃ A1 c1, e = .returned (.slice A1 n c1) ∧ NewB w0 w 5 A1 n c1 bs ∧ n + more ≤ c1 := by
  refine enter (args := [.slice A n c, .int .i64 (more : Int)]) Try.func21 rfl Try.ntmps21 rfl ?_
  have H := Sat.start w0
  refine cw_seq ?_
  -- region 0 pack.go:12
  refine cw_region (clf [.U]) [0] rfl (by kernel_rfl) ?_
  refine TF.u (v := (.slice _ _ _)) rfl rfl (pr_assign rfl) ?_
  refine TF.nil (nx_then ?_)
  refine cw_seq ?_
  -- region 1 pack.go:13
  refine cw_region (clf [.U, .U, .U, .U, .U, .U, .X, .U]) [0, 1, 2, 3, 4, 5, 6, 7] rfl (by kernel_rfl) ?_
  refine TF.u (v := (.slice _ _ _)) rfl rfl (pr_move rfl) ?_
  refine TF.u (v := (.int .i64 _)) rfl rfl (pr_len rfl Try.underlying24 rfl) ?_
  refine TF.u (v := (.slice _ _ _)) rfl rfl (pr_move rfl) ?_
  refine TF.u (v := (.int .i64 _)) rfl rfl (pr_len rfl Try.underlying24 rfl) ?_
  refine TF.u (v := (.int .i64 _)) rfl rfl (pr_move rfl) ?_
  refine TF.u (v := (.int .i64 _)) rfl rfl (pr_add rfl rfl (IntWalk.i64_in _ (by omega))) ?_
  refine TF.make (nl := n) (nc := n + more) (z1 := undef) H rfl (.inl rfl) (wantF_none rfl) Try.underlying24 (Try.ty5) rfl (by rfl) (by omega) (by omega) (by unfold maxLen; omega) ?_
  clear H
  intro bk1 w hltbk1 hb2 H
  rw [made_u8] at H
  refine TF.u (v := (.slice _ _ _)) rfl rfl (pr_assign rfl) ?_
  refine TF.nil (nx_then ?_)
  refine cw_seq ?_
  -- region 2 pack.go:14
  refine cw_region (clf [.U, .U, .X]) [0, 1, 2] rfl (by kernel_rfl) ?_
  refine TF.u (v := (.slice _ _ _)) rfl rfl (pr_move rfl) ?_
  refine TF.u (v := (.slice _ _ _)) rfl rfl (pr_move rfl) ?_
  have hl := hb.length
  refine TF.copy (q := 0) (v := (.slice _ _ _)) (m := n) (m' := n) (news := u8s (bs.take n)) H rfl rfl rfl (wantF_none rfl) Try.underlying24 (Try.ty5.s) rfl rfl (fun _ => rfl) (Nat.min_self _) (first_rdB (hb.below H.base) (Nat.le_refl _)) (fun _ => u8s_one) (by simp [u8s_len]; omega) ?_
  clear H
  intro w ho1 H
  replace H : Sat _ _ _ [_] := H
  rw [List.take_of_length_le (Nat.le_of_eq hl)] at H
  simp only [List.take_zero, List.nil_append, Nat.zero_add, u8s_len, u8s_drop, List.drop_replicate] at H
  replace H := H.toOwn (q := 0) (sz := 1) (nl := n) (nc := n + more) rfl (by simp [u8s_len]; omega) (by omega) (by unfold maxLen; omega)
  replace H : Sat _ _ _ [_] := H
  rw [← u8s_app, u8s_take, Nat.mul_one, List.take_left' hl] at H
  refine TF.nil (nx_then ?_)
  refine cw_seq ?_
  -- region 3 pack.go:15
  refine cw_region (clf [.U, .U]) [0, 1] rfl (by kernel_rfl) ?_
  refine TF.u (v := (.slice _ _ _)) rfl rfl (pr_move rfl) ?_
  refine TF.u (v := (.slice _ _ _)) rfl rfl (pr_assign rfl) ?_
  refine TF.nil (nx_then ?_)
  refine cw_ret (fin1 (v := (.slice _ _ _)) Try.results21 rfl rfl ?_)
  exact ⟨_, _, rfl, H.toNew (k := 0) rfl, by omega⟩

theorem fits_ok (width : Int) (n : Nat) (w0 : World) (hw : -9223372036854775808 ≤ width) (hw2 : width ≤ 9223372036854775807) (hn : n < 18446744073709551616) :
    Calls Try.prog 13 #[.int .i64 width, .int .u64 (n : Int)] w0 fun e w => e = .returned (.bool (fitsS width n)) ∧ Below w0.heap.size w0 w := by
  refine enter (args := [.int .i64 width, .int .u64 (n : Int)]) Try.func13 rfl Try.ntmps13 rfl ?_
  have H := Sat.start w0
  refine cw_seq ?_
  -- region 0 pack.go:7
  refine cw_region (clf [.U]) [0] rfl (by kernel_rfl) ?_
  refine TF.u (v := (.bool _)) rfl rfl (pr_assign rfl) ?_
  refine TF.nil (nx_then ?_)
  refine cw_seq ?_
  -- region 1 pack.go:8
  refine cw_region (clf [.U, .U, .U, .U, .U, .U, .U, .U, .U, .U, .U, .U, .U, .U, .U, .U, .U, .U]) [0, 1, 2, 3, 4, 5, 6, 7, 8, 9, 10, 11, 12, 13, 14, 15, 16, 17] rfl (by kernel_rfl) ?_
  refine TF.u (v := (.int .i64 _)) rfl rfl (pr_move rfl) ?_
  refine TF.u (v := (.bool _)) rfl rfl (pr_geq rfl rfl) ?_
  refine TF.u (v := (.bool _)) rfl rfl (pr_move rfl) ?_
  refine TF.split (dj := 7) rfl (fun hq2 => ?_) (fun hq2 => ?_)
  ·
    have hp2 := dT hq2
    refine TF.ug (v := (.int .i64 _)) rfl rfl (wantF_yes rfl rfl rfl hq2) (pr_move rfl) ?_
    refine TF.ug (v := (.bool _)) rfl rfl (wantF_yes rfl rfl rfl hq2) (pr_leq rfl rfl) ?_
    refine TF.u (v := (.bool _)) rfl rfl (pr_pickT rfl hq2 rfl) ?_
    refine TF.u (v := (.bool _)) rfl rfl (pr_move rfl) ?_
    refine TF.split (dj := 11) rfl (fun hq4 => ?_) (fun hq4 => ?_)
    ·
      have hp4 := dT hq4
      refine TF.ug (v := (.int .i64 _)) rfl rfl (wantF_yes rfl rfl rfl hq4) (pr_move rfl) ?_
      refine TF.ug (v := (.bool _)) rfl rfl (wantF_yes rfl rfl rfl hq4) (pr_eql rfl rfl) ?_
      refine TF.ug (v := (.bool _)) rfl rfl (wantF_yes rfl rfl rfl hq4) (pr_move rfl) ?_
      refine TF.split (dj := 14) rfl (fun hq6 => ?_) (fun hq6 => ?_)
      ·
        have hp6 := dT hq6
        refine TF.skip rfl (wantF_no rfl rfl rfl hq6) ?_
        refine TF.skip rfl (wantF_no rfl rfl rfl hq6) ?_
        refine TF.skip rfl (wantF_no rfl rfl rfl hq6) ?_
        refine TF.skip rfl (wantF_no rfl rfl rfl hq6) ?_
        refine TF.skip rfl (wantF_no rfl rfl rfl hq6) ?_
        refine TF.ug (v := (.bool _)) rfl rfl (wantF_yes rfl rfl rfl hq4) (pr_pickT rfl hq6 rfl) ?_
        refine TF.u (v := (.bool _)) rfl rfl (pr_pickT rfl hq4 rfl) ?_
        refine TF.u (v := (.bool _)) rfl rfl (pr_assign rfl) ?_
        refine TF.nil (nx_then ?_)
        refine cw_ret (fin1 (v := (.bool _)) Try.results13 rfl rfl ?_)
        exact ⟨congrArg _ (congrArg _ (fits_end (by first | exact .inl ⟨by omega, by first | rfl | assumption⟩ | exact .inr (.inl ⟨by omega, by first | rfl | assumption⟩) | exact .inr (.inr (.inl ⟨by omega, by omega, by first | rfl | assumption⟩)) | exact .inr (.inr (.inr ⟨by omega, by omega, rfl⟩))))), H.base⟩
      ·
        have hp6 := dF hq6
        refine TF.ug (v := (.int .u64 _)) rfl rfl (wantF_yes rfl rfl rfl hq6) (pr_move rfl) ?_
        refine TF.ug (v := (.int .i64 _)) rfl rfl (wantF_yes rfl rfl rfl hq6) (pr_move rfl) ?_
        refine TF.ug (v := (.int .i64 _)) rfl rfl (wantF_yes rfl rfl rfl hq6) (pr_mul rfl rfl (IntWalk.i64_in _ (by omega))) ?_
        refine TF.ug (v := (.int .u64 _)) rfl rfl (wantF_yes rfl rfl rfl hq6) (pr_shr rfl rfl (by omega) rfl) ?_
        refine TF.ug (v := (.bool _)) rfl rfl (wantF_yes rfl rfl rfl hq6) (pr_eql rfl rfl) ?_
        refine TF.ug (v := (.bool _)) rfl rfl (wantF_yes rfl rfl rfl hq4) (pr_pickF rfl hq6 rfl) ?_
        refine TF.u (v := (.bool _)) rfl rfl (pr_pickT rfl hq4 rfl) ?_
        refine TF.u (v := (.bool _)) rfl rfl (pr_assign rfl) ?_
        refine TF.nil (nx_then ?_)
        refine cw_ret (fin1 (v := (.bool _)) Try.results13 rfl rfl ?_)
        exact ⟨congrArg _ (congrArg _ (fits_end (by first | exact .inl ⟨by omega, by first | rfl | assumption⟩ | exact .inr (.inl ⟨by omega, by first | rfl | assumption⟩) | exact .inr (.inr (.inl ⟨by omega, by omega, by first | rfl | assumption⟩)) | exact .inr (.inr (.inr ⟨by omega, by omega, rfl⟩))))), H.base⟩
    ·
      have hp4 := dF hq4
      refine TF.skip rfl (wantF_no rfl rfl rfl hq4) ?_
      refine TF.skip rfl (wantF_no rfl rfl rfl hq4) ?_
      refine TF.skip rfl (wantF_no rfl rfl rfl hq4) ?_
      refine TF.skip rfl (wantF_undef rfl rfl rfl) ?_
      refine TF.skip rfl (wantF_undef rfl rfl rfl) ?_
      refine TF.skip rfl (wantF_undef rfl rfl rfl) ?_
      refine TF.skip rfl (wantF_undef rfl rfl rfl) ?_
      refine TF.skip rfl (wantF_undef rfl rfl rfl) ?_
      refine TF.skip rfl (wantF_no rfl rfl rfl hq4) ?_
      refine TF.u (v := (.bool _)) rfl rfl (pr_pickF rfl hq4 rfl) ?_
      refine TF.u (v := (.bool _)) rfl rfl (pr_assign rfl) ?_
      refine TF.nil (nx_then ?_)
      refine cw_ret (fin1 (v := (.bool _)) Try.results13 rfl rfl ?_)
      exact ⟨congrArg _ (congrArg _ (fits_end (by first | exact .inl ⟨by omega, by first | rfl | assumption⟩ | exact .inr (.inl ⟨by omega, by first | rfl | assumption⟩) | exact .inr (.inr (.inl ⟨by omega, by omega, by first | rfl | assumption⟩)) | exact .inr (.inr (.inr ⟨by omega, by omega, rfl⟩))))), H.base⟩
  ·
    have hp2 := dF hq2
    refine TF.skip rfl (wantF_no rfl rfl rfl hq2) ?_
    refine TF.skip rfl (wantF_no rfl rfl rfl hq2) ?_
    refine TF.u (v := (.bool _)) rfl rfl (pr_pickF rfl hq2 rfl) ?_
    refine TF.u (v := (.bool _)) rfl rfl (pr_move rfl) ?_
    refine TF.skip rfl (wantF_no rfl rfl rfl rfl) ?_
    refine TF.skip rfl (wantF_no rfl rfl rfl rfl) ?_
    refine TF.skip rfl (wantF_no rfl rfl rfl rfl) ?_
    refine TF.skip rfl (wantF_undef rfl rfl rfl) ?_
    refine TF.skip rfl (wantF_undef rfl rfl rfl) ?_
    refine TF.skip rfl (wantF_undef rfl rfl rfl) ?_
    refine TF.skip rfl (wantF_undef rfl rfl rfl) ?_
    refine TF.skip rfl (wantF_undef rfl rfl rfl) ?_
    refine TF.skip rfl (wantF_no rfl rfl rfl rfl) ?_
    refine TF.u (v := (.bool _)) rfl rfl (pr_pickF rfl rfl rfl) ?_
    refine TF.u (v := (.bool _)) rfl rfl (pr_assign rfl) ?_
    refine TF.nil (nx_then ?_)
    refine cw_ret (fin1 (v := (.bool _)) Try.results13 rfl rfl ?_)
    exact ⟨congrArg _ (congrArg _ (fits_end (by first | exact .inl ⟨by omega, by first | rfl | assumption⟩ | exact .inr (.inl ⟨by omega, by first | rfl | assumption⟩) | exact .inr (.inr (.inl ⟨by omega, by omega, by first | rfl | assumption⟩)) | exact .inr (.inr (.inr ⟨by omega, by omega, rfl⟩))))), H.base⟩

theorem put_ok (A : Option Addr) (n c : Nat) (bs : List UInt8) (width : Int) (v : Nat) (w0 : World) (hb : RdB w0 A n c bs) (hn : n ≤ 140737488351232) (hw : -9223372036854775808 ≤ width) (hw2 : width ≤ 9223372036854775807) (hv : v < 18446744073709551616) :
    Calls Try.prog 11 #[.slice A n c, .int .i64 width, .int .u64 (v : Int)] w0 fun e w => ∃ A1 n1 c1, e = .returned (.tuple #[.slice A1 n1 c1, .int .i64 (putS bs width v).2]) ∧ NewB w0 w 5 A1 n1 c1 (putS bs width v).1 := by
  refine enter (args := [.slice A n c, .int .i64 width, .int .u64 (v : Int)]) Try.func11 rfl Try.ntmps11 rfl ?_
  have H := Sat.start w0
  refine cw_seq ?_
  -- region 0 pack.go:19
  refine cw_region (clf [.U, .U]) [0, 1] rfl (by kernel_rfl) ?_
  refine TF.u (v := (.slice _ _ _)) rfl rfl (pr_assign rfl) ?_
  refine TF.u (v := (.int .i64 _)) rfl rfl (pr_assign rfl) ?_
  refine TF.nil (nx_then ?_)
  refine cw_seq ?_
  refine cw_seq ?_
  -- region 1 pack.go:20
  refine cw_region (clf [.U, .U, .X, .U]) [0, 1, 2, 3] rfl (by kernel_rfl) ?_
  refine TF.u (v := (.int .i64 _)) rfl rfl (pr_move rfl) ?_
  refine TF.u (v := (.int .u64 _)) rfl rfl (pr_move rfl) ?_
  refine TF.call (args := [(.int .i64 _), (.int .u64 _)]) Try.fn13 rfl rfl (wantF_none rfl) rfl (fits_ok _ _ _ (by omega) (by omega) (by omega)) ?_
  rintro e_ w1 ⟨rfl, hb1⟩
  refine ⟨_, rfl, ?_⟩
  replace H := H.below hb1
  refine TF.u (v := (.bool _)) rfl rfl (pr_not rfl) ?_
  refine TF.nil (nx_then ?_)
  refine cw_cond _ rfl rfl (fun hq3 => ?_) (fun hq3 => ?_)
  ·
    have hp3 := (nT hq3)
    refine cw_seq ?_
    -- region 2 pack.go:21
    refine cw_region (clf [.U, .U]) [0, 1] rfl (by kernel_rfl) ?_
    refine TF.u (v := (.slice _ _ _)) rfl rfl (pr_assign rfl) ?_
    refine TF.u (v := (.int .i64 _)) rfl rfl (pr_assign rfl) ?_
    refine TF.nil (nx_then ?_)
    refine cw_ret (rt_then (fin2 (v := (.slice _ _ _)) (v' := (.int .i64 _)) Try.results11 rfl rfl rfl rfl ?_))
    rw [putS_no (nT hq3)]
    exact ⟨_, _, _, rfl, NewS.nilB H.base _ _⟩
  ·
    have hp3 := (nF hq3)
    refine cw_skip (nx_then ?_)
    refine cw_seq ?_
    -- region 3 pack.go:23
    refine cw_region (clf [.U, .U, .X, .U]) [0, 1, 2, 3] rfl (by kernel_rfl) ?_
    have hfit := (nF hq3)
    obtain ⟨hw3, hw4, hw5⟩ := fits_bounds hfit
    obtain ⟨wd, rfl⟩ := Int.eq_ofNat_of_zero_le (show 0 ≤ width by omega)
    simp only [Int.toNat_natCast] at hw5
    refine TF.u (v := (.slice _ _ _)) rfl rfl (pr_move rfl) ?_
    refine TF.u (v := (.int .i64 _)) rfl rfl (pr_move rfl) ?_
    refine TF.call (args := [(.slice _ _ _), (.int .i64 _)]) Try.fn21 rfl rfl (wantF_none rfl) rfl ((behind_ok _ _ _ _ _ _ (hb.below H.base) (by omega) (by omega))) ?_
    rintro e_ w1 ⟨A4, c4, rfl, hn4, hc4⟩
    refine ⟨_, rfl, ?_⟩
    replace H := H.newS hn4
    refine TF.u (v := (.slice _ _ _)) rfl rfl (pr_assign rfl) ?_
    refine TF.nil (nx_then ?_)
    refine cw_seq ?_
    refine cw_seq ?_
    -- region 4 pack.go:24
    refine cw_region (clf [.U, .U]) [0, 1] rfl (by kernel_rfl) ?_
    refine TF.u (v := (.int .i64 _)) rfl rfl (pr_move rfl) ?_
    refine TF.u (v := (.int .i64 _)) rfl rfl (pr_move rfl) ?_
    refine TF.nil (nx_then ?_)
    refine cw_block ?_
    refine cw_loop (fun m f w => ∃ (g_ : Nat → Value) (i : Nat) (A1 : Option Addr) (c1 : Nat), m = wd - i ∧ f = (upd (upd (upd (upd (upd g_ 2 (.int .u64 (v : Int))) 17 (.int .i64 (wd : Int))) 18 (.int .i64 (i : Int))) 8 (.slice A1 (n + i) c1)) 1 (.int .i64 (wd : Int))) ∧ Sat [] w0 w [cOwnB 5 A1 (n + i) c1 (bs ++ be i (v / 256 ^ (wd - i)))] ∧ i ≤ wd) (wd - 0) ?_ ?_
    ·
      exact ⟨_, 0, _, _, rfl, (cutS (cutS (cutS (cutS (cutS rfl rfl) rfl) rfl) rfl) rfl), (by simpa [be] using H), Nat.zero_le _⟩
    ·
      clear H
      rintro m_ f_ w ⟨g_, i, A1, c1, rfl, rfl, H, hi⟩
      refine cw_seq ?_
      -- region 5 pack.go:24
      refine cw_region (clf [.U]) [0] rfl (by kernel_rfl) ?_
      refine TF.u (v := (.bool _)) rfl rfl (pr_lss rfl rfl) ?_
      refine TF.nil (nx_then ?_)
      refine cw_seq ?_
      refine cw_cond _ rfl rfl (fun hq7 => ?_) (fun hq7 => ?_)
      ·
        have hp7 := dT hq7
        refine cw_skip (nx_then ?_)
        refine cw_seq ?_
        refine cw_block ?_
        refine cw_seq ?_
        -- region 6 pack.go:24
        refine cw_region (clf [.U, .U]) [0, 1] rfl (by kernel_rfl) ?_
        refine TF.u (v := (.int .i64 _)) rfl rfl (pr_move rfl) ?_
        refine TF.u (v := (.int .i64 _)) rfl rfl (pr_assign rfl) ?_
        refine TF.nil (nx_then ?_)
        -- region 7 pack.go:25
        refine cw_region (clf [.U, .U, .U, .U, .U, .U, .U, .U, .U, .X, .X, .U]) [0, 1, 2, 3, 4, 5, 6, 7, 8, 9, 10, 11] rfl (by kernel_rfl) ?_
        have hlt : i < wd := by omega
        refine TF.u (v := (.slice _ _ _)) rfl rfl (pr_move rfl) ?_
        refine TF.u (v := (.int .u64 _)) rfl rfl (pr_move rfl) ?_
        refine TF.u (v := (.int .i64 _)) rfl rfl (pr_move rfl) ?_
        refine TF.u (v := (.int .i64 _)) rfl rfl (pr_sub rfl rfl (IntWalk.i64_in _ (by omega))) ?_
        refine TF.u (v := (.int .i64 _)) rfl rfl (pr_move rfl) ?_
        refine TF.u (v := (.int .i64 _)) rfl rfl (pr_sub rfl rfl (IntWalk.i64_in _ (by omega))) ?_
        refine TF.u (v := (.int .i64 _)) rfl rfl (pr_mul rfl rfl (IntWalk.i64_in _ (by omega))) ?_
        refine TF.u (v := (.int .u64 _)) rfl rfl (pr_shr rfl rfl (by omega) rfl) ?_
        refine TF.u (v := (.int .u8 _)) rfl rfl (pr_conv Try.underlying22 Try.underlying5 rfl (put_byte hlt (by omega))) ?_
        refine TF.lit (vs := [(.int .u8 _)]) H rfl (.inl rfl) (wantF_none rfl) Try.underlying24 (Try.ty5) rfl rfl rfl rfl rfl rfl ?_
        clear H
        intro bk8 w hltbk8 hb9 H
        replace H : Sat _ _ _ (cBlk _ _ (u8s [_]) :: _) := H
        replace H : Sat _ _ _ [_, _] := H
        refine TF.append (q := 1) (v := (.slice _ _ _)) H rfl rfl rfl (wantF_none rfl) Try.underlying24 (Try.ty5) rfl Try.underlying24 (.inr ⟨_, rfl⟩) rfl rfl (Src.rdB ((H.blk (k := 0) rfl).own 1 rfl (by decide)).rd) (by unfold maxLen; omega) (by omega) ?_
        clear H
        intro Aout_10 cout_10 w ho10 H
        replace H : Sat _ _ _ [_, _] := H
        rw [← u8s_app, List.append_assoc, be_step hlt] at H
        refine TF.u (v := (.slice _ _ _)) rfl rfl (pr_assign rfl) ?_
        refine TF.nil (nx_block (nx_then ?_))
        -- region 8 pack.go:24
        refine cw_region (clf [.U, .U]) [0, 1] rfl (by kernel_rfl) ?_
        refine TF.u (v := (.int .i64 _)) rfl rfl (pr_add rfl rfl (IntWalk.i64_in _ (by omega))) ?_
        refine TF.u (v := (.int .i64 _)) rfl rfl (pr_move rfl) ?_
        refine TF.nil (nx_loop (m' := wd - (i + 1)) (by omega) ?_)
        exact ⟨_, i + 1, _, _, rfl, (cutS (cutS (cutS (cutS (cutS rfl rfl) rfl) rfl) rfl) rfl), (H.del 0), by omega⟩
      ·
        have hp7 := dF hq7
        refine cw_exit (ex_then (ex_then (ex_here (nx_then ?_))))
        refine cw_seq ?_
        -- region 9 pack.go:27
        refine cw_region (clf [.U, .U, .U]) [0, 1, 2] rfl (by kernel_rfl) ?_
        refine TF.u (v := (.slice _ _ _)) rfl rfl (pr_move rfl) ?_
        refine TF.u (v := (.slice _ _ _)) rfl rfl (pr_assign rfl) ?_
        refine TF.u (v := (.int .i64 _)) rfl rfl (pr_assign rfl) ?_
        refine TF.nil (nx_then ?_)
        refine cw_ret (fin2 (v := (.slice _ _ _)) (v' := (.int .i64 _)) Try.results11 rfl rfl rfl rfl ?_)
        obtain rfl : i = wd := by omega
        rw [putS_yes hfit]
        simp only [Nat.sub_self, Nat.pow_zero, Nat.div_one] at H
        exact ⟨_, _, _, rfl, H.toNew (k := 0) rfl⟩

theorem take_ok (A : Option Addr) (n c : Nat) (bs : List UInt8) (at_ width : Int) (w0 : World) (hb : RdB w0 A n c bs) (hn : n ≤ 281474976710656) (ha : -9223372036854775808 ≤ at_) (ha2 : at_ ≤ 9223372036854775807) (hw : -9223372036854775808 ≤ width) (hw2 : width ≤ 9223372036854775807) :
    Calls Try.prog 15 #[.slice A n c, .int .i64 at_, .int .i64 width] w0 fun e w => e = .returned (.tuple #[.int .u64 ((takeS bs at_ width).1 : Int), .int .i64 (takeS bs at_ width).2]) ∧ Below w0.heap.size w0 w := by
  refine enter (args := [.slice A n c, .int .i64 at_, .int .i64 width]) Try.func15 rfl Try.ntmps15 rfl ?_
  have H := Sat.start w0
  refine cw_seq ?_
  -- region 0 pack.go:31
  refine cw_region (clf [.U, .U]) [0, 1] rfl (by kernel_rfl) ?_
  refine TF.u (v := (.int .u64 _)) rfl rfl (pr_assign rfl) ?_
  refine TF.u (v := (.int .i64 _)) rfl rfl (pr_assign rfl) ?_
  refine TF.nil (nx_then ?_)
  refine cw_seq ?_
  refine cw_block ?_
  refine cw_seq ?_
  -- region 1 pack.go:33
  refine cw_region (clf [.U, .U, .U, .U, .U, .U, .U, .U, .U, .U, .U]) [0, 1, 2, 3, 4, 5, 6, 7, 8, 9, 10] rfl (by kernel_rfl) ?_
  refine TF.u (v := (.int .i64 _)) rfl rfl (pr_move rfl) ?_
  refine TF.u (v := (.bool _)) rfl rfl (pr_lss rfl rfl) ?_
  refine TF.u (v := (.bool _)) rfl rfl (pr_move rfl) ?_
  refine TF.split (dj := 14) rfl (fun hq2 => ?_) (fun hq2 => ?_)
  ·
    have hp2 := dT hq2
    refine TF.skip rfl (wantF_no rfl rfl rfl hq2) ?_
    refine TF.skip rfl (wantF_no rfl rfl rfl hq2) ?_
    refine TF.u (v := (.bool _)) rfl rfl (pr_pickT rfl hq2 rfl) ?_
    refine TF.u (v := (.bool _)) rfl rfl (pr_move rfl) ?_
    refine TF.skip rfl (wantF_no rfl rfl rfl rfl) ?_
    refine TF.skip rfl (wantF_no rfl rfl rfl rfl) ?_
    refine TF.u (v := (.bool _)) rfl rfl (pr_pickT rfl rfl rfl) ?_
    refine TF.u (v := (.bool _)) rfl rfl (pr_assign rfl) ?_
    refine TF.nil (nx_then ?_)
    refine cw_condT (t := _) rfl rfl rfl ?_
    refine cw_seq ?_
    -- region 2 pack.go:34
    refine cw_region (clf [.U, .U]) [0, 1] rfl (by kernel_rfl) ?_
    refine TF.u (v := (.int .u64 _)) rfl rfl (pr_assign rfl) ?_
    refine TF.u (v := (.int .i64 _)) rfl rfl (pr_assign rfl) ?_
    refine TF.nil (nx_then ?_)
    refine cw_ret (rt_block (rt_then (fin2 (v := (.int .u64 _)) (v' := (.int .i64 _)) Try.results15 rfl rfl rfl rfl ?_)))
    exact ⟨by rw [takeS_arg (by omega)]; rfl, H.base⟩
  ·
    have hp2 := dF hq2
    refine TF.ug (v := (.int .i64 _)) rfl rfl (wantF_yes rfl rfl rfl hq2) (pr_move rfl) ?_
    refine TF.ug (v := (.bool _)) rfl rfl (wantF_yes rfl rfl rfl hq2) (pr_gtr rfl rfl) ?_
    refine TF.u (v := (.bool _)) rfl rfl (pr_pickF rfl hq2 rfl) ?_
    refine TF.u (v := (.bool _)) rfl rfl (pr_move rfl) ?_
    refine TF.split (dj := 18) rfl (fun hq4 => ?_) (fun hq4 => ?_)
    ·
      have hp4 := dT hq4
      refine TF.skip rfl (wantF_no rfl rfl rfl hq4) ?_
      refine TF.skip rfl (wantF_no rfl rfl rfl hq4) ?_
      refine TF.u (v := (.bool _)) rfl rfl (pr_pickT rfl hq4 rfl) ?_
      refine TF.u (v := (.bool _)) rfl rfl (pr_assign rfl) ?_
      refine TF.nil (nx_then ?_)
      refine cw_condT (t := _) rfl rfl rfl ?_
      refine cw_seq ?_
      -- region 2 pack.go:34
      refine cw_region (clf [.U, .U]) [0, 1] rfl (by kernel_rfl) ?_
      refine TF.u (v := (.int .u64 _)) rfl rfl (pr_assign rfl) ?_
      refine TF.u (v := (.int .i64 _)) rfl rfl (pr_assign rfl) ?_
      refine TF.nil (nx_then ?_)
      refine cw_ret (rt_block (rt_then (fin2 (v := (.int .u64 _)) (v' := (.int .i64 _)) Try.results15 rfl rfl rfl rfl ?_)))
      exact ⟨by rw [takeS_arg (by omega)]; rfl, H.base⟩
    ·
      have hp4 := dF hq4
      refine TF.ug (v := (.int .i64 _)) rfl rfl (wantF_yes rfl rfl rfl hq4) (pr_move rfl) ?_
      refine TF.ug (v := (.bool _)) rfl rfl (wantF_yes rfl rfl rfl hq4) (pr_lss rfl rfl) ?_
      refine TF.u (v := (.bool _)) rfl rfl (pr_pickF rfl hq4 rfl) ?_
      refine TF.u (v := (.bool _)) rfl rfl (pr_assign rfl) ?_
      refine TF.nil (nx_then ?_)
      refine cw_cond _ rfl rfl (fun hq6 => ?_) (fun hq6 => ?_)
      ·
        have hp6 := dT hq6
        refine cw_seq ?_
        -- region 2 pack.go:34
        refine cw_region (clf [.U, .U]) [0, 1] rfl (by kernel_rfl) ?_
        refine TF.u (v := (.int .u64 _)) rfl rfl (pr_assign rfl) ?_
        refine TF.u (v := (.int .i64 _)) rfl rfl (pr_assign rfl) ?_
        refine TF.nil (nx_then ?_)
        refine cw_ret (rt_block (rt_then (fin2 (v := (.int .u64 _)) (v' := (.int .i64 _)) Try.results15 rfl rfl rfl rfl ?_)))
        exact ⟨by rw [takeS_arg (by omega)]; rfl, H.base⟩
      ·
        have hp6 := dF hq6
        refine cw_seq ?_
        -- region 3 pack.go:35
        refine cw_region (clf [.U, .U, .U, .U, .U, .U, .U, .U, .U, .U, .U, .U, .U]) [0, 1, 2, 3, 4, 5, 6, 7, 8, 9, 10, 11, 12] rfl (by kernel_rfl) ?_
        refine TF.u (v := (.int .i64 _)) rfl rfl (pr_move rfl) ?_
        refine TF.u (v := (.slice _ _ _)) rfl rfl (pr_move rfl) ?_
        refine TF.u (v := (.int .i64 _)) rfl rfl (pr_len rfl Try.underlying24 rfl) ?_
        refine TF.u (v := (.bool _)) rfl rfl (pr_gtr rfl rfl) ?_
        refine TF.u (v := (.bool _)) rfl rfl (pr_move rfl) ?_
        refine TF.split (dj := 27) rfl (fun hq8 => ?_) (fun hq8 => ?_)
        ·
          have hp8 := dT hq8
          refine TF.skip rfl (wantF_no rfl rfl rfl hq8) ?_
          refine TF.skip rfl (wantF_no rfl rfl rfl hq8) ?_
          refine TF.skip rfl (wantF_no rfl rfl rfl hq8) ?_
          refine TF.skip rfl (wantF_no rfl rfl rfl hq8) ?_
          refine TF.skip rfl (wantF_no rfl rfl rfl hq8) ?_
          refine TF.skip rfl (wantF_no rfl rfl rfl hq8) ?_
          refine TF.u (v := (.bool _)) rfl rfl (pr_pickT rfl hq8 rfl) ?_
          refine TF.u (v := (.bool _)) rfl rfl (pr_assign rfl) ?_
          refine TF.nil (nx_then ?_)
          refine cw_condT (t := _) rfl rfl rfl ?_
          refine cw_seq ?_
          -- region 4 pack.go:36
          refine cw_region (clf [.U, .U]) [0, 1] rfl (by kernel_rfl) ?_
          refine TF.u (v := (.int .u64 _)) rfl rfl (pr_assign rfl) ?_
          refine TF.u (v := (.int .i64 _)) rfl rfl (pr_assign rfl) ?_
          refine TF.nil (nx_then ?_)
          refine cw_ret (rt_block (rt_then (fin2 (v := (.int .u64 _)) (v' := (.int .i64 _)) Try.results15 rfl rfl rfl rfl ?_)))
          exact ⟨by rw [takeS_short (by omega) (by rw [hb.length]; omega)]; rfl, H.base⟩
        ·
          have hp8 := dF hq8
          refine TF.ug (v := (.slice _ _ _)) rfl rfl (wantF_yes rfl rfl rfl hq8) (pr_move rfl) ?_
          refine TF.ug (v := (.int .i64 _)) rfl rfl (wantF_yes rfl rfl rfl hq8) (pr_len rfl Try.underlying24 rfl) ?_
          refine TF.ug (v := (.int .i64 _)) rfl rfl (wantF_yes rfl rfl rfl hq8) (pr_move rfl) ?_
          refine TF.ug (v := (.int .i64 _)) rfl rfl (wantF_yes rfl rfl rfl hq8) (pr_sub rfl rfl (IntWalk.i64_in _ (by omega))) ?_
          refine TF.ug (v := (.int .i64 _)) rfl rfl (wantF_yes rfl rfl rfl hq8) (pr_move rfl) ?_
          refine TF.ug (v := (.bool _)) rfl rfl (wantF_yes rfl rfl rfl hq8) (pr_lss rfl rfl) ?_
          refine TF.u (v := (.bool _)) rfl rfl (pr_pickF rfl hq8 rfl) ?_
          refine TF.u (v := (.bool _)) rfl rfl (pr_assign rfl) ?_
          refine TF.nil (nx_then ?_)
          refine cw_cond _ rfl rfl (fun hq10 => ?_) (fun hq10 => ?_)
          ·
            have hp10 := dT hq10
            refine cw_seq ?_
            -- region 4 pack.go:36
            refine cw_region (clf [.U, .U]) [0, 1] rfl (by kernel_rfl) ?_
            refine TF.u (v := (.int .u64 _)) rfl rfl (pr_assign rfl) ?_
            refine TF.u (v := (.int .i64 _)) rfl rfl (pr_assign rfl) ?_
            refine TF.nil (nx_then ?_)
            refine cw_ret (rt_block (rt_then (fin2 (v := (.int .u64 _)) (v' := (.int .i64 _)) Try.results15 rfl rfl rfl rfl ?_)))
            exact ⟨by rw [takeS_short (by omega) (by rw [hb.length]; omega)]; rfl, H.base⟩
          ·
            have hp10 := dF hq10
            refine cw_skip (nx_block (nx_then ?_))
            refine cw_seq ?_
            -- region 5 pack.go:38
            refine cw_region (clf [.U]) [0] rfl (by kernel_rfl) ?_
            obtain ⟨a, rfl⟩ := Int.eq_ofNat_of_zero_le (show 0 ≤ at_ by omega)
            obtain ⟨wd, rfl⟩ := Int.eq_ofNat_of_zero_le (show 0 ≤ width by omega)
            have hcut := RdB.cut (lo := a) (hi := a + wd) (m := c) (n' := wd) (c' := c - a) hb (by omega) (by omega) (by have := hb.cap; omega) (by omega) (by omega) rfl
            have hcap := hb.cap
            refine TF.u (v := (.int .u64 _)) rfl rfl (pr_assign rfl) ?_
            refine TF.nil (nx_then ?_)
            refine cw_seq ?_
            refine cw_seq ?_
            -- region 6 pack.go:39
            refine cw_region (clf [.U, .U, .U, .U, .U, .U, .U, .U]) [0, 1, 2, 3, 4, 5, 6, 7] rfl (by kernel_rfl) ?_
            refine TF.u (v := (.slice _ _ _)) rfl rfl (pr_move rfl) ?_
            refine TF.u (v := (.int .i64 _)) rfl rfl (pr_move rfl) ?_
            refine TF.u (v := (.int .i64 _)) rfl rfl (pr_move rfl) ?_
            refine TF.u (v := (.int .i64 _)) rfl rfl (pr_move rfl) ?_
            refine TF.u (v := (.int .i64 _)) rfl rfl (pr_add rfl rfl (IntWalk.i64_in _ (by omega))) ?_
            refine TF.u (v := (.slice _ _ _)) rfl rfl (pr_cut (l := a) (h := a + wd) (mm := c) Try.underlying24 (Try.ty5.s) rfl (.inr ⟨_, _, rfl, rfl⟩) (.inr ⟨_, _, rfl, (by rfl)⟩) (.inl ⟨rfl, rfl⟩) (by omega) (by omega) (by omega) (n' := wd) (c' := c - a) (by omega) (by omega)) ?_
            skip
            refine TF.u (v := (.int .i64 _)) rfl rfl (pr_len rfl Try.underlying24 rfl) ?_
            refine TF.u (v := (.int .i64 _)) rfl rfl (pr_move rfl) ?_
            refine TF.nil (nx_then ?_)
            refine cw_block ?_
            refine cw_loop (fun m f w => ∃ (g_ : Nat → Value) (i : Nat), m = wd - i ∧ f = (upd (upd (upd (upd g_ 40 (.slice (cutA A c a 1) wd (c - a))) 41 (.int .i64 (wd : Int))) 42 (.int .i64 (i : Int))) 8 (.int .u64 ((unbe (((bs.drop a).take wd).take i) : Nat) : Int))) ∧ Sat [] w0 w [] ∧ i ≤ wd) (wd - 0) ?_ ?_
            ·
              exact ⟨_, 0, rfl, (cutS (cutS (cutS (cutS rfl rfl) rfl) rfl) rfl), H, Nat.zero_le _⟩
            ·
              clear H
              rintro m_ f_ w ⟨g_, i, rfl, rfl, H, hi⟩
              refine cw_seq ?_
              -- region 7 pack.go:39
              refine cw_region (clf [.U]) [0] rfl (by kernel_rfl) ?_
              refine TF.u (v := (.bool _)) rfl rfl (pr_lss rfl rfl) ?_
              refine TF.nil (nx_then ?_)
              refine cw_seq ?_
              refine cw_cond _ rfl rfl (fun hq12 => ?_) (fun hq12 => ?_)
              ·
                have hp12 := dT hq12
                refine cw_skip (nx_then ?_)
                refine cw_seq ?_
                refine cw_block ?_
                refine cw_seq ?_
                -- region 8 pack.go:39
                refine cw_region (clf [.U, .X, .U]) [0, 1, 2] rfl (by kernel_rfl) ?_
                refine TF.idxB (hcut.below H.base) rfl rfl (wantF_none rfl) Try.underlying24 (Try.ty5.s) rfl rfl (by omega) (by omega) ?_
                intro p13 hc14
                refine TF.load (v := (.int .u8 _)) rfl rfl (wantF_none rfl) Try.underlying5 rfl rfl hc14 ?_
                refine TF.u (v := (.int .u8 _)) rfl rfl (pr_assign rfl) ?_
                refine TF.nil (nx_then ?_)
                -- region 9 pack.go:40
                refine cw_region (clf [.U, .U, .U, .U, .U, .U]) [0, 1, 2, 3, 4, 5] rfl (by kernel_rfl) ?_
                have hul := unbe_lt (((bs.drop a).take wd).take i)
                rw [List.length_take, hcut.length, Nat.min_eq_left (by omega)] at hul
                have hp7 : (256 : Nat) ^ i ≤ 256 ^ 7 := Nat.pow_le_pow_right (by omega) (by omega)
                have hby := (((bs.drop a).take wd).getD (i : Int).toNat 0).toNat_lt
                refine TF.u (v := (.int .u64 _)) rfl rfl (pr_move rfl) ?_
                refine TF.u (v := (.int .u64 _)) rfl rfl (pr_shl rfl rfl (by omega) (take_shl (by omega))) ?_
                refine TF.u (v := (.int .u8 _)) rfl rfl (pr_move rfl) ?_
                refine TF.u (v := (.int .u64 _)) rfl rfl (pr_conv Try.underlying5 Try.underlying22 rfl (IntWalk.u64_in _ (by omega))) ?_
                refine TF.u (v := (.int .u64 _)) rfl rfl (pr_or rfl rfl (take_or (by omega) (by omega))) ?_
                refine TF.u (v := (.int .u64 _)) rfl rfl (pr_assign rfl) ?_
                refine TF.nil (nx_block (nx_then ?_))
                -- region 10 pack.go:39
                refine cw_region (clf [.U, .U]) [0, 1] rfl (by kernel_rfl) ?_
                refine TF.u (v := (.int .i64 _)) rfl rfl (pr_add rfl rfl (IntWalk.i64_in _ (by omega))) ?_
                refine TF.u (v := (.int .i64 _)) rfl rfl (pr_move rfl) ?_
                have htk := take_succ_getD ((bs.drop a).take wd) i (by rw [hcut.length]; omega)
                refine TF.nil (nx_loop (m' := wd - (i + 1)) (by omega) ?_)
                exact ⟨_, i + 1, rfl, (cutS (cutS (cutS (cutS rfl rfl) rfl) rfl) (by rw [htk, unbe_snoc]; rfl)), H, by omega⟩
              ·
                have hp12 := dF hq12
                refine cw_exit (ex_then (ex_then (ex_here (nx_then ?_))))
                refine cw_seq ?_
                -- region 11 pack.go:42
                refine cw_region (clf [.U, .U, .U]) [0, 1, 2] rfl (by kernel_rfl) ?_
                refine TF.u (v := (.int .u64 _)) rfl rfl (pr_move rfl) ?_
                refine TF.u (v := (.int .u64 _)) rfl rfl (pr_assign rfl) ?_
                refine TF.u (v := (.int .i64 _)) rfl rfl (pr_assign rfl) ?_
                refine TF.nil (nx_then ?_)
                refine cw_ret (fin2 (v := (.int .u64 _)) (v' := (.int .i64 _)) Try.results15 rfl rfl rfl rfl ?_)
                obtain rfl : i = wd := by omega
                rw [List.take_of_length_le (by rw [hcut.length]; omega)]
                exact ⟨by rw [takeS_yes (by omega) (by omega) (by rw [hb.length]; omega) (by rw [hb.length]; omega) trivial], H.base⟩

theorem takeText_ok (A : Option Addr) (n c : Nat) (bs : List UInt8) (at_ : Int) (w0 : World) (hb : RdB w0 A n c bs) (hn : n ≤ 281474976710656) (ha : -9223372036854775808 ≤ at_) (ha2 : at_ ≤ 9223372036854775807) :
    Calls Try.prog 18 #[.slice A n c, .int .i64 at_] w0 fun e w => e = .returned (.tuple #[T (takeTextS bs at_).1, .int .i64 (takeTextS bs at_).2.1, .int .i64 (takeTextS bs at_).2.2]) ∧ Below w0.heap.size w0 w := by
  refine enter (args := [.slice A n c, .int .i64 at_]) Try.func18 rfl Try.ntmps18 rfl ?_
  have H := Sat.start w0
  refine cw_seq ?_
  -- region 0 pack.go:55
  refine cw_region (clf [.U, .U, .U]) [0, 1, 2] rfl (by kernel_rfl) ?_
  refine TF.u (v := (T _)) rfl rfl (pr_assign rfl) ?_
  refine TF.u (v := (.int .i64 _)) rfl rfl (pr_assign rfl) ?_
  refine TF.u (v := (.int .i64 _)) rfl rfl (pr_assign rfl) ?_
  refine TF.nil (nx_then ?_)
  refine cw_seq ?_
  -- region 1 pack.go:56
  refine cw_region (clf [.U, .U, .X, .U, .U, .U, .U, .U]) [0, 1, 2, 3, 4, 5, 6, 7] rfl (by kernel_rfl) ?_
  refine TF.u (v := (.slice _ _ _)) rfl rfl (pr_move rfl) ?_
  refine TF.u (v := (.int .i64 _)) rfl rfl (pr_move rfl) ?_
  refine TF.call (args := [(.slice _ _ _), (.int .i64 _), (.int .i64 _)]) Try.fn15 rfl rfl (wantF_none rfl) rfl (take_ok _ _ _ _ _ _ _ (hb.below H.base) (by omega) (by omega) (by omega) (by omega) (by omega)) ?_
  rintro e_ w1 ⟨rfl, hb1⟩
  refine ⟨_, rfl, ?_⟩
  replace H := H.below hb1
  refine TF.u (v := (.tuple _)) rfl rfl (pr_move rfl) ?_
  refine TF.u (v := (.int .u64 _)) rfl rfl (pr_extract (vs := _) rfl rfl) ?_
  refine TF.u (v := (.int .i64 _)) rfl rfl (pr_extract (vs := _) rfl rfl) ?_
  refine TF.u (v := (.int .u64 _)) rfl rfl (pr_assign rfl) ?_
  refine TF.u (v := (.int .i64 _)) rfl rfl (pr_assign rfl) ?_
  refine TF.nil (nx_then ?_)
  refine cw_seq ?_
  refine cw_seq ?_
  -- region 2 pack.go:57
  refine cw_region (clf [.U, .U]) [0, 1] rfl (by kernel_rfl) ?_
  refine TF.u (v := (.int .i64 _)) rfl rfl (pr_move rfl) ?_
  refine TF.u (v := (.bool _)) rfl rfl (pr_neq rfl rfl) ?_
  refine TF.nil (nx_then ?_)
  refine cw_cond _ rfl rfl (fun hq3 => ?_) (fun hq3 => ?_)
  ·
    have hp3 := dF (nT hq3)
    refine cw_seq ?_
    -- region 3 pack.go:58
    refine cw_region (clf [.U, .U, .U, .U]) [0, 1, 2, 3] rfl (by kernel_rfl) ?_
    have hp_e : (takeS bs at_ 1).2 ≠ 0 := by assumption
    refine TF.u (v := (.int .i64 _)) rfl rfl (pr_move rfl) ?_
    refine TF.u (v := (T _)) rfl rfl (pr_assign rfl) ?_
    refine TF.u (v := (.int .i64 _)) rfl rfl (pr_assign rfl) ?_
    refine TF.u (v := (.int .i64 _)) rfl rfl (pr_assign rfl) ?_
    refine TF.nil (nx_then ?_)
    refine cw_ret (rt_then (fin3 (v := (T _)) (v' := (.int .i64 _)) (v'' := (.int .i64 _)) Try.results18 rfl rfl rfl rfl rfl rfl ?_))
    exact ⟨by rw [takeTextS_err hp_e], H.base⟩
  ·
    have hp3 := dT (nF hq3)
    refine cw_skip (nx_then ?_)
    refine cw_seq ?_
    -- region 4 pack.go:60
    refine cw_region (clf [.U, .U, .U]) [0, 1, 2] rfl (by kernel_rfl) ?_
    have hne : (takeS bs at_ 1).2 = 0 := by omega
    obtain ⟨hat0, hat1, hat2⟩ := takeS_one hne
    rw [hb.length] at hat1
    obtain ⟨a, rfl⟩ := Int.eq_ofNat_of_zero_le hat0
    simp only [Int.toNat_natCast] at hat2
    have hby := (bs.getD a 0).toNat_lt
    rw [hat2]
    refine TF.u (v := (.int .i64 _)) rfl rfl (pr_move rfl) ?_
    refine TF.u (v := (.int .i64 _)) rfl rfl (pr_add rfl rfl (IntWalk.i64_in _ (by omega))) ?_
    refine TF.u (v := (.int .i64 _)) rfl rfl (pr_assign rfl) ?_
    refine TF.nil (nx_then ?_)
    refine cw_seq ?_
    refine cw_seq ?_
    -- region 5 pack.go:61
    refine cw_region (clf [.U, .U, .U, .U, .U, .U, .U]) [0, 1, 2, 3, 4, 5, 6] rfl (by kernel_rfl) ?_
    refine TF.u (v := (.slice _ _ _)) rfl rfl (pr_move rfl) ?_
    refine TF.u (v := (.int .i64 _)) rfl rfl (pr_len rfl Try.underlying24 rfl) ?_
    refine TF.u (v := (.int .i64 _)) rfl rfl (pr_move rfl) ?_
    refine TF.u (v := (.int .i64 _)) rfl rfl (pr_sub rfl rfl (IntWalk.i64_in _ (by omega))) ?_
    refine TF.u (v := (.int .u64 _)) rfl rfl (pr_move rfl) ?_
    refine TF.u (v := (.int .i64 _)) rfl rfl (pr_conv Try.underlying22 Try.underlying3 rfl (IntWalk.i64_in _ (by omega))) ?_
    refine TF.u (v := (.bool _)) rfl rfl (pr_lss rfl rfl) ?_
    refine TF.nil (nx_then ?_)
    refine cw_cond _ rfl rfl (fun hq5 => ?_) (fun hq5 => ?_)
    ·
      have hp5 := dT hq5
      refine cw_seq ?_
      -- region 6 pack.go:62
      refine cw_region (clf [.U, .U, .U]) [0, 1, 2] rfl (by kernel_rfl) ?_
      refine TF.u (v := (T _)) rfl rfl (pr_assign rfl) ?_
      refine TF.u (v := (.int .i64 _)) rfl rfl (pr_assign rfl) ?_
      refine TF.u (v := (.int .i64 _)) rfl rfl (pr_assign rfl) ?_
      refine TF.nil (nx_then ?_)
      refine cw_ret (rt_then (fin3 (v := (T _)) (v' := (.int .i64 _)) (v'' := (.int .i64 _)) Try.results18 rfl rfl rfl rfl rfl rfl ?_))
      exact ⟨by rw [takeTextS_short hne (by rw [hb.length]; omega)], H.base⟩
    ·
      have hp5 := dF hq5
      refine cw_skip (nx_then ?_)
      refine cw_seq ?_
      -- region 7 pack.go:64
      refine cw_region (clf [.U, .U, .U, .U, .U, .U, .U, .X, .U, .U, .U, .U, .U, .U, .U]) [0, 1, 2, 3, 4, 5, 6, 7, 8, 9, 10, 11, 12, 13, 14] rfl (by kernel_rfl) ?_
      have hcut := RdB.cut (lo := a + 1) (hi := a + 1 + (bs.getD a 0).toNat) (m := c) (n' := (bs.getD a 0).toNat) (c' := c - (a + 1)) hb (by omega) (by omega) (by have := hb.cap; omega) (by have := hb.cap; omega) (by omega) rfl
      have hcap := hb.cap
      refine TF.u (v := (.slice _ _ _)) rfl rfl (pr_move rfl) ?_
      refine TF.u (v := (.int .i64 _)) rfl rfl (pr_move rfl) ?_
      refine TF.u (v := (.int .i64 _)) rfl rfl (pr_move rfl) ?_
      refine TF.u (v := (.int .u64 _)) rfl rfl (pr_move rfl) ?_
      refine TF.u (v := (.int .i64 _)) rfl rfl (pr_conv Try.underlying22 Try.underlying3 rfl (IntWalk.i64_in _ (by omega))) ?_
      refine TF.u (v := (.int .i64 _)) rfl rfl (pr_add rfl rfl (IntWalk.i64_in _ (by omega))) ?_
      refine TF.u (v := (.slice _ _ _)) rfl rfl (pr_cut (l := a + 1) (h := a + 1 + (bs.getD a 0).toNat) (mm := c) Try.underlying24 (Try.ty5.s) rfl (.inr ⟨_, _, rfl, (by rfl)⟩) (.inr ⟨_, _, rfl, (by rfl)⟩) (.inl ⟨rfl, rfl⟩) (by omega) (by omega) (by omega) (n' := (bs.getD a 0).toNat) (c' := c - (a + 1)) (by omega) (by omega)) ?_
      skip
      refine TF.tostr (hcut.below H.base) rfl rfl (wantF_none rfl) Try.underlying24 Try.underlying5 Try.underlying9 rfl ?_
      refine TF.u (v := (.int .i64 _)) rfl rfl (pr_move rfl) ?_
      refine TF.u (v := (.int .u64 _)) rfl rfl (pr_move rfl) ?_
      refine TF.u (v := (.int .i64 _)) rfl rfl (pr_conv Try.underlying22 Try.underlying3 rfl (IntWalk.i64_in _ (by omega))) ?_
      refine TF.u (v := (.int .i64 _)) rfl rfl (pr_add rfl rfl (IntWalk.i64_in _ (by omega))) ?_
      refine TF.u (v := (T _)) rfl rfl (pr_assign rfl) ?_
      refine TF.u (v := (.int .i64 _)) rfl rfl (pr_assign rfl) ?_
      refine TF.u (v := (.int .i64 _)) rfl rfl (pr_assign rfl) ?_
      refine TF.nil (nx_then ?_)
      refine cw_ret (fin3 (v := (T _)) (v' := (.int .i64 _)) (v'' := (.int .i64 _)) Try.results18 rfl rfl rfl rfl rfl rfl ?_)
      exact ⟨by rw [takeTextS_yes hne (by rw [hb.length]; omega) rfl], H.base⟩

theorem putText_ok (A : Option Addr) (n c : Nat) (bs s : List UInt8) (w0 : World) (hb : RdB w0 A n c bs) (hn : n ≤ 140737488351232) (hs : s.length ≤ 140737488351232) :
    Calls Try.prog 17 #[.slice A n c, T s] w0 fun e w => ∃ A1 n1 c1, e = .returned (.tuple #[.slice A1 n1 c1, .int .i64 (putTextS bs s).2]) ∧ NewB w0 w 5 A1 n1 c1 (putTextS bs s).1 := by
  refine enter (args := [.slice A n c, T s]) Try.func17 rfl Try.ntmps17 rfl ?_
  have H := Sat.start w0
  refine cw_seq ?_
  -- region 0 pack.go:46
  refine cw_region (clf [.U, .U]) [0, 1] rfl (by kernel_rfl) ?_
  refine TF.u (v := (.slice _ _ _)) rfl rfl (pr_assign rfl) ?_
  refine TF.u (v := (.int .i64 _)) rfl rfl (pr_assign rfl) ?_
  refine TF.nil (nx_then ?_)
  refine cw_seq ?_
  refine cw_seq ?_
  -- region 1 pack.go:47
  refine cw_region (clf [.U, .U, .U]) [0, 1, 2] rfl (by kernel_rfl) ?_
  refine TF.u (v := (T _)) rfl rfl (pr_move rfl) ?_
  refine TF.u (v := (.int .i64 _)) rfl rfl (pr_slen rfl Try.underlying9 rfl) ?_
  refine TF.u (v := (.bool _)) rfl rfl (pr_gtr rfl rfl) ?_
  refine TF.nil (nx_then ?_)
  refine cw_cond _ rfl rfl (fun hq2 => ?_) (fun hq2 => ?_)
  ·
    have hp2 := dT hq2
    refine cw_seq ?_
    -- region 2 pack.go:48
    refine cw_region (clf [.U, .U]) [0, 1] rfl (by kernel_rfl) ?_
    refine TF.u (v := (.slice _ _ _)) rfl rfl (pr_assign rfl) ?_
    refine TF.u (v := (.int .i64 _)) rfl rfl (pr_assign rfl) ?_
    refine TF.nil (nx_then ?_)
    refine cw_ret (rt_then (fin2 (v := (.slice _ _ _)) (v' := (.int .i64 _)) Try.results17 rfl rfl rfl rfl ?_))
    rw [putTextS_no (by omega)]
    exact ⟨_, _, _, rfl, NewS.nilB H.base _ _⟩
  ·
    have hp2 := dF hq2
    refine cw_skip (nx_then ?_)
    refine cw_seq ?_
    -- region 3 pack.go:50
    refine cw_region (clf [.U, .U, .U, .U, .X, .U, .U, .U, .X, .X, .U]) [0, 1, 2, 3, 4, 5, 6, 7, 8, 9, 10] rfl (by kernel_rfl) ?_
    refine TF.u (v := (.slice _ _ _)) rfl rfl (pr_move rfl) ?_
    refine TF.u (v := (T _)) rfl rfl (pr_move rfl) ?_
    refine TF.u (v := (.int .i64 _)) rfl rfl (pr_slen rfl Try.underlying9 rfl) ?_
    refine TF.u (v := (.int .i64 _)) rfl rfl (pr_add rfl rfl (IntWalk.i64_in _ (by omega))) ?_
    refine TF.call (args := [(.slice _ _ _), (.int .i64 _)]) Try.fn21 rfl rfl (wantF_none rfl) rfl ((behind_ok _ _ _ _ (s.length + 1) _ (hb.below H.base) (by omega) (by omega))) ?_
    rintro e_ w1 ⟨A3, c3, rfl, hn3, hc3⟩
    refine ⟨_, rfl, ?_⟩
    replace H := H.newS hn3
    refine TF.u (v := (T _)) rfl rfl (pr_move rfl) ?_
    refine TF.u (v := (.int .i64 _)) rfl rfl (pr_slen rfl Try.underlying9 rfl) ?_
    refine TF.u (v := (.int .u8 _)) rfl rfl (pr_conv Try.underlying3 Try.underlying5 rfl (len_byte (by omega))) ?_
    refine TF.lit (vs := [(.int .u8 _)]) H rfl (.inl rfl) (wantF_none rfl) Try.underlying24 (Try.ty5) rfl rfl rfl rfl rfl rfl ?_
    clear H
    intro bk5 w hltbk5 hb6 H
    replace H : Sat _ _ _ (cBlk _ _ (u8s [_]) :: _) := H
    replace H : Sat _ _ _ [_, _] := H
    refine TF.append (q := 1) (v := (.slice _ _ _)) H rfl rfl rfl (wantF_none rfl) Try.underlying24 (Try.ty5) rfl Try.underlying24 (.inr ⟨_, rfl⟩) rfl rfl (Src.rdB ((H.blk (k := 0) rfl).own 1 rfl (by decide)).rd) (by unfold maxLen; omega) (by omega) ?_
    clear H
    intro Aow4_7 cow4_7 w ho7 H
    replace H : Sat _ _ _ [_, _] := H
    rw [← u8s_app] at H
    refine TF.u (v := (.slice _ _ _)) rfl rfl (pr_assign rfl) ?_
    refine TF.nil (nx_then ?_)
    refine cw_seq ?_
    -- region 4 pack.go:51
    refine cw_region (clf [.U, .U, .X, .U, .U]) [0, 1, 2, 3, 4] rfl (by kernel_rfl) ?_
    refine TF.u (v := (.slice _ _ _)) rfl rfl (pr_move rfl) ?_
    refine TF.u (v := (T _)) rfl rfl (pr_move rfl) ?_
    refine TF.append (q := 1) (v := (T _)) H rfl rfl rfl (wantF_none rfl) Try.underlying24 (Try.ty5) rfl Try.underlying9 (.inl rfl) rfl rfl (Src.text _ _) (by unfold maxLen; omega) (by omega) ?_
    clear H
    intro Aow4_8 cow4_8 w ho8 H
    replace H : Sat _ _ _ [_, _] := H
    rw [← u8s_app] at H
    refine TF.u (v := (.slice _ _ _)) rfl rfl (pr_assign rfl) ?_
    refine TF.u (v := (.int .i64 _)) rfl rfl (pr_assign rfl) ?_
    refine TF.nil (nx_then ?_)
    refine cw_ret (fin2 (v := (.slice _ _ _)) (v' := (.int .i64 _)) Try.results17 rfl rfl rfl rfl ?_)
    rw [putTextS_yes (by omega)]
    exact ⟨_, _, _, rfl, H.toNew (k := 1) rfl⟩

theorem rfits_ok (width : Int) (n : Nat) (w0 : World) (hw : -9223372036854775808 ≤ width) (hw2 : width ≤ 9223372036854775807) (hn : n < 18446744073709551616) :
    Calls Try.prog 14 #[.int .i64 width, .int .u64 (n : Int)] w0 fun e w => e = .returned (.bool (fitsS width n)) ∧ Below w0.heap.size w0 w := by
  refine enter (args := [.int .i64 width, .int .u64 (n : Int)]) Try.func14 rfl Try.ntmps14 rfl ?_
  have H := Sat.start w0
  refine cw_seq ?_
  -- region 0 ref.go:5
  refine cw_region (clf [.U]) [0] rfl (by kernel_rfl) ?_
  refine TF.u (v := (.bool _)) rfl rfl (pr_assign rfl) ?_
  refine TF.nil (nx_then ?_)
  refine cw_seq ?_
  refine cw_seq ?_
  -- region 1 ref.go:6
  refine cw_region (clf [.U, .U, .U, .U, .U, .U]) [0, 1, 2, 3, 4, 5] rfl (by kernel_rfl) ?_
  refine TF.u (v := (.int .i64 _)) rfl rfl (pr_move rfl) ?_
  refine TF.u (v := (.bool _)) rfl rfl (pr_lss rfl rfl) ?_
  refine TF.u (v := (.bool _)) rfl rfl (pr_move rfl) ?_
  refine TF.split (dj := 8) rfl (fun hq2 => ?_) (fun hq2 => ?_)
  ·
    have hp2 := dT hq2
    refine TF.skip rfl (wantF_no rfl rfl rfl hq2) ?_
    refine TF.skip rfl (wantF_no rfl rfl rfl hq2) ?_
    refine TF.u (v := (.bool _)) rfl rfl (pr_pickT rfl hq2 rfl) ?_
    refine TF.nil (nx_then ?_)
    refine cw_condT (t := _) rfl rfl rfl ?_
    refine cw_seq ?_
    -- region 2 ref.go:7
    refine cw_region (clf [.U]) [0] rfl (by kernel_rfl) ?_
    refine TF.u (v := (.bool _)) rfl rfl (pr_assign rfl) ?_
    refine TF.nil (nx_then ?_)
    refine cw_ret (rt_then (fin1 (v := (.bool _)) Try.results14 rfl rfl ?_))
    exact ⟨by rw [fitsS_no (by omega)], H.base⟩
  ·
    have hp2 := dF hq2
    refine TF.ug (v := (.int .i64 _)) rfl rfl (wantF_yes rfl rfl rfl hq2) (pr_move rfl) ?_
    refine TF.ug (v := (.bool _)) rfl rfl (wantF_yes rfl rfl rfl hq2) (pr_gtr rfl rfl) ?_
    refine TF.u (v := (.bool _)) rfl rfl (pr_pickF rfl hq2 rfl) ?_
    refine TF.nil (nx_then ?_)
    refine cw_cond _ rfl rfl (fun hq4 => ?_) (fun hq4 => ?_)
    ·
      have hp4 := dT hq4
      refine cw_seq ?_
      -- region 2 ref.go:7
      refine cw_region (clf [.U]) [0] rfl (by kernel_rfl) ?_
      refine TF.u (v := (.bool _)) rfl rfl (pr_assign rfl) ?_
      refine TF.nil (nx_then ?_)
      refine cw_ret (rt_then (fin1 (v := (.bool _)) Try.results14 rfl rfl ?_))
      exact ⟨by rw [fitsS_no (by omega)], H.base⟩
    ·
      have hp4 := dF hq4
      refine cw_skip (nx_then ?_)
      refine cw_seq ?_
      refine cw_seq ?_
      -- region 3 ref.go:9
      refine cw_region (clf [.U]) [0] rfl (by kernel_rfl) ?_
      obtain ⟨wd, rfl⟩ := Int.eq_ofNat_of_zero_le (show 0 ≤ width by omega)
      refine TF.u (v := (.int .i64 _)) rfl rfl (pr_assign rfl) ?_
      refine TF.nil (nx_then ?_)
      refine cw_block ?_
      refine cw_loop (fun m f w => ∃ (g_ : Nat → Value) (i : Nat), m = wd - i ∧ f = (upd (upd (upd g_ 0 (.int .i64 (wd : Int))) 1 (.int .u64 ((n / 256 ^ i : Nat) : Int))) 5 (.int .i64 (i : Int))) ∧ Sat [] w0 w [] ∧ i ≤ wd) (wd - 0) ?_ ?_
      ·
        exact ⟨_, 0, rfl, (cutS (cutS (cutS rfl rfl) (by rw [Nat.pow_zero, Nat.div_one]; rfl)) rfl), H, Nat.zero_le _⟩
      ·
        clear H
        rintro m_ f_ w ⟨g_, i, rfl, rfl, H, hi⟩
        refine cw_seq ?_
        refine cw_seq ?_
        -- region 4 ref.go:9
        refine cw_region (clf [.U, .U, .U]) [0, 1, 2] rfl (by kernel_rfl) ?_
        refine TF.u (v := (.int .i64 _)) rfl rfl (pr_move rfl) ?_
        refine TF.u (v := (.int .i64 _)) rfl rfl (pr_move rfl) ?_
        refine TF.u (v := (.bool _)) rfl rfl (pr_lss rfl rfl) ?_
        refine TF.nil (nx_then ?_)
        refine cw_cond _ rfl rfl (fun hq6 => ?_) (fun hq6 => ?_)
        ·
          have hp6 := dT hq6
          refine cw_skip (nx_then ?_)
          refine cw_seq ?_
          refine cw_block ?_
          -- region 6 ref.go:10
          refine cw_region (clf [.U, .U, .U]) [0, 1, 2] rfl (by kernel_rfl) ?_
          refine TF.u (v := (.int .u64 _)) rfl rfl (pr_move rfl) ?_
          refine TF.u (v := (.int .u64 _)) rfl rfl (pr_quo rfl rfl (by omega) (quo256 (by have := Nat.div_le_self n (256 ^ i); omega))) ?_
          refine TF.u (v := (.int .u64 _)) rfl rfl (pr_assign rfl) ?_
          refine TF.nil (nx_block (nx_then ?_))
          -- region 5 ref.go:9
          refine cw_region (clf [.U, .U, .U]) [0, 1, 2] rfl (by kernel_rfl) ?_
          refine TF.u (v := (.int .i64 _)) rfl rfl (pr_move rfl) ?_
          refine TF.u (v := (.int .i64 _)) rfl rfl (pr_add rfl rfl (IntWalk.i64_in _ (by omega))) ?_
          refine TF.u (v := (.int .i64 _)) rfl rfl (pr_assign rfl) ?_
          refine TF.nil (nx_loop (m' := wd - (i + 1)) (by omega) ?_)
          exact ⟨_, i + 1, rfl, (cutS (cutS (cutS rfl rfl) (by rw [Nat.pow_succ, ← Nat.div_div_eq_div_mul]; rfl)) rfl), H, by omega⟩
        ·
          have hp6 := dF hq6
          refine cw_exit (ex_then (ex_then (ex_here (nx_then ?_))))
          refine cw_seq ?_
          -- region 7 ref.go:12
          refine cw_region (clf [.U, .U, .U]) [0, 1, 2] rfl (by kernel_rfl) ?_
          refine TF.u (v := (.int .u64 _)) rfl rfl (pr_move rfl) ?_
          refine TF.u (v := (.bool _)) rfl rfl (pr_eql rfl rfl) ?_
          refine TF.u (v := (.bool _)) rfl rfl (pr_assign rfl) ?_
          refine TF.nil (nx_then ?_)
          refine cw_ret (fin1 (v := (.bool _)) Try.results14 rfl rfl ?_)
          obtain rfl : i = wd := by omega
          exact ⟨by rw [fitsS_loop (by omega) (by omega)], H.base⟩

theorem number_ok (wd n : Nat) (w0 : World) (hw : wd ≤ 1000) (hn : n < 18446744073709551616) :
    Calls Try.prog 22 #[.int .i64 (wd : Int), .int .u64 (n : Int)] w0 fun e w => e = .returned (T (be wd n)) ∧ Below w0.heap.size w0 w := by
  refine enter (args := [.int .i64 (wd : Int), .int .u64 (n : Int)]) Try.func22 rfl Try.ntmps22 rfl ?_
  have H := Sat.start w0
  refine cw_seq ?_
  -- region 0 ref.go:16
  refine cw_region (clf [.U]) [0] rfl (by kernel_rfl) ?_
  refine TF.u (v := (T _)) rfl rfl (pr_assign rfl) ?_
  refine TF.nil (nx_then ?_)
  refine cw_seq ?_
  -- region 1 ref.go:17
  refine cw_region (clf [.U]) [0] rfl (by kernel_rfl) ?_
  refine TF.u (v := (T _)) rfl rfl (pr_assign rfl) ?_
  refine TF.nil (nx_then ?_)
  refine cw_seq ?_
  refine cw_seq ?_
  -- region 2 ref.go:18
  refine cw_region (clf [.U]) [0] rfl (by kernel_rfl) ?_
  refine TF.u (v := (.int .i64 _)) rfl rfl (pr_assign rfl) ?_
  refine TF.nil (nx_then ?_)
  refine cw_block ?_
  refine cw_loop (fun m f w => ∃ (g_ : Nat → Value) (i : Nat), m = wd - i ∧ f = (upd (upd (upd (upd g_ 0 (.int .i64 (wd : Int))) 1 (.int .u64 ((n / 256 ^ i : Nat) : Int))) 6 (.int .i64 (i : Int))) 5 (T (be i n))) ∧ Sat [] w0 w [] ∧ i ≤ wd) (wd - 0) ?_ ?_
  ·
    exact ⟨_, 0, rfl, (cutS (cutS (cutS (cutS rfl rfl) (by rw [Nat.pow_zero, Nat.div_one]; rfl)) rfl) rfl), H, Nat.zero_le _⟩
  ·
    clear H
    rintro m_ f_ w ⟨g_, i, rfl, rfl, H, hi⟩
    refine cw_seq ?_
    refine cw_seq ?_
    -- region 3 ref.go:18
    refine cw_region (clf [.U, .U, .U]) [0, 1, 2] rfl (by kernel_rfl) ?_
    refine TF.u (v := (.int .i64 _)) rfl rfl (pr_move rfl) ?_
    refine TF.u (v := (.int .i64 _)) rfl rfl (pr_move rfl) ?_
    refine TF.u (v := (.bool _)) rfl rfl (pr_lss rfl rfl) ?_
    refine TF.nil (nx_then ?_)
    refine cw_cond _ rfl rfl (fun hq2 => ?_) (fun hq2 => ?_)
    ·
      have hp2 := dT hq2
      refine cw_skip (nx_then ?_)
      refine cw_seq ?_
      refine cw_block ?_
      refine cw_seq ?_
      -- region 5 ref.go:19
      refine cw_region (clf [.U, .U, .U, .X, .X, .U, .U, .U]) [0, 1, 2, 3, 4, 5, 6, 7] rfl (by kernel_rfl) ?_
      refine TF.u (v := (.int .u64 _)) rfl rfl (pr_move rfl) ?_
      refine TF.u (v := (.int .u64 _)) rfl rfl (pr_rem rfl rfl (by omega) rem256) ?_
      refine TF.u (v := (.int .u8 _)) rfl rfl (pr_conv Try.underlying22 Try.underlying5 rfl conv_u8) ?_
      refine TF.lit (vs := [(.int .u8 _)]) H rfl (.inl rfl) (wantF_none rfl) Try.underlying24 (Try.ty5) rfl rfl rfl rfl rfl rfl ?_
      clear H
      intro bk3 w hltbk3 hb4 H
      replace H : Sat _ _ _ (cBlk _ _ (u8s [_]) :: _) := H
      replace H : Sat _ _ _ [_] := H
      refine TF.tostr ((H.blk (k := 0) rfl).own 1 rfl (by decide)).rd rfl rfl (wantF_none rfl) Try.underlying24 Try.underlying5 Try.underlying9 rfl ?_
      refine TF.u (v := (T _)) rfl rfl (pr_move rfl) ?_
      refine TF.u (v := (T _)) rfl rfl (pr_sadd rfl rfl (by rw [be_len]; simp; omega)) ?_
      refine TF.u (v := (T _)) rfl rfl (pr_assign rfl) ?_
      refine TF.nil (nx_then ?_)
      -- region 6 ref.go:20
      refine cw_region (clf [.U, .U, .U]) [0, 1, 2] rfl (by kernel_rfl) ?_
      refine TF.u (v := (.int .u64 _)) rfl rfl (pr_move rfl) ?_
      refine TF.u (v := (.int .u64 _)) rfl rfl (pr_quo rfl rfl (by omega) (quo256 (by have := Nat.div_le_self n (256 ^ i); omega))) ?_
      refine TF.u (v := (.int .u64 _)) rfl rfl (pr_assign rfl) ?_
      refine TF.nil (nx_block (nx_then ?_))
      -- region 4 ref.go:18
      refine cw_region (clf [.U, .U, .U]) [0, 1, 2] rfl (by kernel_rfl) ?_
      refine TF.u (v := (.int .i64 _)) rfl rfl (pr_move rfl) ?_
      refine TF.u (v := (.int .i64 _)) rfl rfl (pr_add rfl rfl (IntWalk.i64_in _ (by omega))) ?_
      refine TF.u (v := (.int .i64 _)) rfl rfl (pr_assign rfl) ?_
      refine TF.nil (nx_loop (m' := wd - (i + 1)) (by omega) ?_)
      exact ⟨_, i + 1, rfl, (cutS (cutS (cutS (cutS rfl rfl) (by rw [Nat.pow_succ, ← Nat.div_div_eq_div_mul]; rfl)) rfl) (by rw [be_low]; rfl)), (H.del 0), by omega⟩
    ·
      have hp2 := dF hq2
      refine cw_exit (ex_then (ex_then (ex_here (nx_then ?_))))
      refine cw_seq ?_
      -- region 7 ref.go:22
      refine cw_region (clf [.U, .U]) [0, 1] rfl (by kernel_rfl) ?_
      refine TF.u (v := (T _)) rfl rfl (pr_move rfl) ?_
      refine TF.u (v := (T _)) rfl rfl (pr_assign rfl) ?_
      refine TF.nil (nx_then ?_)
      refine cw_ret (fin1 (v := (T _)) Try.results22 rfl rfl ?_)
      obtain rfl : i = wd := by omega
      exact ⟨rfl, H.base⟩

theorem rput_ok (bs : List UInt8) (width : Int) (v : Nat) (w0 : World) (hn : bs.length ≤ 140737488351232) (hw : -9223372036854775808 ≤ width) (hw2 : width ≤ 9223372036854775807) (hv : v < 18446744073709551616) :
    Calls Try.prog 12 #[T bs, .int .i64 width, .int .u64 (v : Int)] w0 fun e w => e = .returned (.tuple #[T (putS bs width v).1, .int .i64 (putS bs width v).2]) ∧ Below w0.heap.size w0 w := by
  refine enter (args := [T bs, .int .i64 width, .int .u64 (v : Int)]) Try.func12 rfl Try.ntmps12 rfl ?_
  have H := Sat.start w0
  refine cw_seq ?_
  -- region 0 ref.go:26
  refine cw_region (clf [.U, .U]) [0, 1] rfl (by kernel_rfl) ?_
  refine TF.u (v := (T _)) rfl rfl (pr_assign rfl) ?_
  refine TF.u (v := (.int .i64 _)) rfl rfl (pr_assign rfl) ?_
  refine TF.nil (nx_then ?_)
  refine cw_seq ?_
  refine cw_seq ?_
  -- region 1 ref.go:27
  refine cw_region (clf [.U, .U, .X, .U]) [0, 1, 2, 3] rfl (by kernel_rfl) ?_
  refine TF.u (v := (.int .i64 _)) rfl rfl (pr_move rfl) ?_
  refine TF.u (v := (.int .u64 _)) rfl rfl (pr_move rfl) ?_
  refine TF.call (args := [(.int .i64 _), (.int .u64 _)]) Try.fn14 rfl rfl (wantF_none rfl) rfl (rfits_ok _ _ _ (by omega) (by omega) (by omega)) ?_
  rintro e_ w1 ⟨rfl, hb1⟩
  refine ⟨_, rfl, ?_⟩
  replace H := H.below hb1
  refine TF.u (v := (.bool _)) rfl rfl (pr_not rfl) ?_
  refine TF.nil (nx_then ?_)
  refine cw_cond _ rfl rfl (fun hq3 => ?_) (fun hq3 => ?_)
  ·
    have hp3 := (nT hq3)
    refine cw_seq ?_
    -- region 2 ref.go:28
    refine cw_region (clf [.U, .U]) [0, 1] rfl (by kernel_rfl) ?_
    refine TF.u (v := (T _)) rfl rfl (pr_assign rfl) ?_
    refine TF.u (v := (.int .i64 _)) rfl rfl (pr_assign rfl) ?_
    refine TF.nil (nx_then ?_)
    refine cw_ret (rt_then (fin2 (v := (T _)) (v' := (.int .i64 _)) Try.results12 rfl rfl rfl rfl ?_))
    exact ⟨by rw [putS_no (nT hq3)], H.base⟩
  ·
    have hp3 := (nF hq3)
    refine cw_skip (nx_then ?_)
    refine cw_seq ?_
    -- region 3 ref.go:30
    refine cw_region (clf [.U, .U, .U, .X, .U, .U, .U]) [0, 1, 2, 3, 4, 5, 6] rfl (by kernel_rfl) ?_
    have hfit := (nF hq3)
    obtain ⟨hw3, hw4, hw5⟩ := fits_bounds hfit
    obtain ⟨wd, rfl⟩ := Int.eq_ofNat_of_zero_le (show 0 ≤ width by omega)
    refine TF.u (v := (T _)) rfl rfl (pr_move rfl) ?_
    refine TF.u (v := (.int .i64 _)) rfl rfl (pr_move rfl) ?_
    refine TF.u (v := (.int .u64 _)) rfl rfl (pr_move rfl) ?_
    refine TF.call (args := [(.int .i64 _), (.int .u64 _)]) Try.fn22 rfl rfl (wantF_none rfl) rfl (number_ok _ _ _ (by omega) (by omega)) ?_
    rintro e_ w1 ⟨rfl, hb4⟩
    refine ⟨_, rfl, ?_⟩
    replace H := H.below hb4
    refine TF.u (v := (T _)) rfl rfl (pr_sadd rfl rfl (by rw [be_len]; omega)) ?_
    refine TF.u (v := (T _)) rfl rfl (pr_assign rfl) ?_
    refine TF.u (v := (.int .i64 _)) rfl rfl (pr_assign rfl) ?_
    refine TF.nil (nx_then ?_)
    refine cw_ret (fin2 (v := (T _)) (v' := (.int .i64 _)) Try.results12 rfl rfl rfl rfl ?_)
    exact ⟨by rw [putS_yes hfit]; rfl, H.base⟩

theorem rtake_ok (bs : List UInt8) (at_ width : Int) (w0 : World) (hn : bs.length ≤ 281474976710656) (ha : -9223372036854775808 ≤ at_) (ha2 : at_ ≤ 9223372036854775807) (hw : -9223372036854775808 ≤ width) (hw2 : width ≤ 9223372036854775807) :
    Calls Try.prog 16 #[T bs, .int .i64 at_, .int .i64 width] w0 fun e w => e = .returned (.tuple #[.int .u64 ((takeS bs at_ width).1 : Int), .int .i64 (takeS bs at_ width).2]) ∧ Below w0.heap.size w0 w := by
  refine enter (args := [T bs, .int .i64 at_, .int .i64 width]) Try.func16 rfl Try.ntmps16 rfl ?_
  have H := Sat.start w0
  refine cw_seq ?_
  -- region 0 ref.go:34
  refine cw_region (clf [.U, .U]) [0, 1] rfl (by kernel_rfl) ?_
  refine TF.u (v := (.int .u64 _)) rfl rfl (pr_assign rfl) ?_
  refine TF.u (v := (.int .i64 _)) rfl rfl (pr_assign rfl) ?_
  refine TF.nil (nx_then ?_)
  refine cw_seq ?_
  refine cw_seq ?_
  -- region 1 ref.go:35
  refine cw_region (clf [.U, .U, .U, .U, .U, .U, .U, .U, .U, .U]) [0, 1, 2, 3, 4, 5, 6, 7, 8, 9] rfl (by kernel_rfl) ?_
  refine TF.u (v := (.int .i64 _)) rfl rfl (pr_move rfl) ?_
  refine TF.u (v := (.bool _)) rfl rfl (pr_lss rfl rfl) ?_
  refine TF.u (v := (.bool _)) rfl rfl (pr_move rfl) ?_
  refine TF.split (dj := 12) rfl (fun hq2 => ?_) (fun hq2 => ?_)
  ·
    have hp2 := dT hq2
    refine TF.skip rfl (wantF_no rfl rfl rfl hq2) ?_
    refine TF.skip rfl (wantF_no rfl rfl rfl hq2) ?_
    refine TF.u (v := (.bool _)) rfl rfl (pr_pickT rfl hq2 rfl) ?_
    refine TF.u (v := (.bool _)) rfl rfl (pr_move rfl) ?_
    refine TF.skip rfl (wantF_no rfl rfl rfl rfl) ?_
    refine TF.skip rfl (wantF_no rfl rfl rfl rfl) ?_
    refine TF.u (v := (.bool _)) rfl rfl (pr_pickT rfl rfl rfl) ?_
    refine TF.nil (nx_then ?_)
    refine cw_condT (t := _) rfl rfl rfl ?_
    refine cw_seq ?_
    -- region 2 ref.go:36
    refine cw_region (clf [.U, .U]) [0, 1] rfl (by kernel_rfl) ?_
    refine TF.u (v := (.int .u64 _)) rfl rfl (pr_assign rfl) ?_
    refine TF.u (v := (.int .i64 _)) rfl rfl (pr_assign rfl) ?_
    refine TF.nil (nx_then ?_)
    refine cw_ret (rt_then (fin2 (v := (.int .u64 _)) (v' := (.int .i64 _)) Try.results16 rfl rfl rfl rfl ?_))
    exact ⟨by rw [takeS_arg (by omega)]; rfl, H.base⟩
  ·
    have hp2 := dF hq2
    refine TF.ug (v := (.int .i64 _)) rfl rfl (wantF_yes rfl rfl rfl hq2) (pr_move rfl) ?_
    refine TF.ug (v := (.bool _)) rfl rfl (wantF_yes rfl rfl rfl hq2) (pr_gtr rfl rfl) ?_
    refine TF.u (v := (.bool _)) rfl rfl (pr_pickF rfl hq2 rfl) ?_
    refine TF.u (v := (.bool _)) rfl rfl (pr_move rfl) ?_
    refine TF.split (dj := 16) rfl (fun hq4 => ?_) (fun hq4 => ?_)
    ·
      have hp4 := dT hq4
      refine TF.skip rfl (wantF_no rfl rfl rfl hq4) ?_
      refine TF.skip rfl (wantF_no rfl rfl rfl hq4) ?_
      refine TF.u (v := (.bool _)) rfl rfl (pr_pickT rfl hq4 rfl) ?_
      refine TF.nil (nx_then ?_)
      refine cw_condT (t := _) rfl rfl rfl ?_
      refine cw_seq ?_
      -- region 2 ref.go:36
      refine cw_region (clf [.U, .U]) [0, 1] rfl (by kernel_rfl) ?_
      refine TF.u (v := (.int .u64 _)) rfl rfl (pr_assign rfl) ?_
      refine TF.u (v := (.int .i64 _)) rfl rfl (pr_assign rfl) ?_
      refine TF.nil (nx_then ?_)
      refine cw_ret (rt_then (fin2 (v := (.int .u64 _)) (v' := (.int .i64 _)) Try.results16 rfl rfl rfl rfl ?_))
      exact ⟨by rw [takeS_arg (by omega)]; rfl, H.base⟩
    ·
      have hp4 := dF hq4
      refine TF.ug (v := (.int .i64 _)) rfl rfl (wantF_yes rfl rfl rfl hq4) (pr_move rfl) ?_
      refine TF.ug (v := (.bool _)) rfl rfl (wantF_yes rfl rfl rfl hq4) (pr_lss rfl rfl) ?_
      refine TF.u (v := (.bool _)) rfl rfl (pr_pickF rfl hq4 rfl) ?_
      refine TF.nil (nx_then ?_)
      refine cw_cond _ rfl rfl (fun hq6 => ?_) (fun hq6 => ?_)
      ·
        have hp6 := dT hq6
        refine cw_seq ?_
        -- region 2 ref.go:36
        refine cw_region (clf [.U, .U]) [0, 1] rfl (by kernel_rfl) ?_
        refine TF.u (v := (.int .u64 _)) rfl rfl (pr_assign rfl) ?_
        refine TF.u (v := (.int .i64 _)) rfl rfl (pr_assign rfl) ?_
        refine TF.nil (nx_then ?_)
        refine cw_ret (rt_then (fin2 (v := (.int .u64 _)) (v' := (.int .i64 _)) Try.results16 rfl rfl rfl rfl ?_))
        exact ⟨by rw [takeS_arg (by omega)]; rfl, H.base⟩
      ·
        have hp6 := dF hq6
        refine cw_skip (nx_then ?_)
        refine cw_seq ?_
        refine cw_seq ?_
        -- region 3 ref.go:38
        refine cw_region (clf [.U, .U, .U, .U, .U, .U, .U, .U, .U, .U, .U, .U]) [0, 1, 2, 3, 4, 5, 6, 7, 8, 9, 10, 11] rfl (by kernel_rfl) ?_
        refine TF.u (v := (.int .i64 _)) rfl rfl (pr_move rfl) ?_
        refine TF.u (v := (T _)) rfl rfl (pr_move rfl) ?_
        refine TF.u (v := (.int .i64 _)) rfl rfl (pr_slen rfl Try.underlying9 rfl) ?_
        refine TF.u (v := (.bool _)) rfl rfl (pr_gtr rfl rfl) ?_
        refine TF.u (v := (.bool _)) rfl rfl (pr_move rfl) ?_
        refine TF.split (dj := 24) rfl (fun hq8 => ?_) (fun hq8 => ?_)
        ·
          have hp8 := dT hq8
          refine TF.skip rfl (wantF_no rfl rfl rfl hq8) ?_
          refine TF.skip rfl (wantF_no rfl rfl rfl hq8) ?_
          refine TF.skip rfl (wantF_no rfl rfl rfl hq8) ?_
          refine TF.skip rfl (wantF_no rfl rfl rfl hq8) ?_
          refine TF.skip rfl (wantF_no rfl rfl rfl hq8) ?_
          refine TF.skip rfl (wantF_no rfl rfl rfl hq8) ?_
          refine TF.u (v := (.bool _)) rfl rfl (pr_pickT rfl hq8 rfl) ?_
          refine TF.nil (nx_then ?_)
          refine cw_condT (t := _) rfl rfl rfl ?_
          refine cw_seq ?_
          -- region 4 ref.go:39
          refine cw_region (clf [.U, .U]) [0, 1] rfl (by kernel_rfl) ?_
          refine TF.u (v := (.int .u64 _)) rfl rfl (pr_assign rfl) ?_
          refine TF.u (v := (.int .i64 _)) rfl rfl (pr_assign rfl) ?_
          refine TF.nil (nx_then ?_)
          refine cw_ret (rt_then (fin2 (v := (.int .u64 _)) (v' := (.int .i64 _)) Try.results16 rfl rfl rfl rfl ?_))
          exact ⟨by rw [takeS_short (by omega) (by omega)]; rfl, H.base⟩
        ·
          have hp8 := dF hq8
          refine TF.ug (v := (T _)) rfl rfl (wantF_yes rfl rfl rfl hq8) (pr_move rfl) ?_
          refine TF.ug (v := (.int .i64 _)) rfl rfl (wantF_yes rfl rfl rfl hq8) (pr_slen rfl Try.underlying9 rfl) ?_
          refine TF.ug (v := (.int .i64 _)) rfl rfl (wantF_yes rfl rfl rfl hq8) (pr_move rfl) ?_
          refine TF.ug (v := (.int .i64 _)) rfl rfl (wantF_yes rfl rfl rfl hq8) (pr_sub rfl rfl (IntWalk.i64_in _ (by omega))) ?_
          refine TF.ug (v := (.int .i64 _)) rfl rfl (wantF_yes rfl rfl rfl hq8) (pr_move rfl) ?_
          refine TF.ug (v := (.bool _)) rfl rfl (wantF_yes rfl rfl rfl hq8) (pr_lss rfl rfl) ?_
          refine TF.u (v := (.bool _)) rfl rfl (pr_pickF rfl hq8 rfl) ?_
          refine TF.nil (nx_then ?_)
          refine cw_cond _ rfl rfl (fun hq10 => ?_) (fun hq10 => ?_)
          ·
            have hp10 := dT hq10
            refine cw_seq ?_
            -- region 4 ref.go:39
            refine cw_region (clf [.U, .U]) [0, 1] rfl (by kernel_rfl) ?_
            refine TF.u (v := (.int .u64 _)) rfl rfl (pr_assign rfl) ?_
            refine TF.u (v := (.int .i64 _)) rfl rfl (pr_assign rfl) ?_
            refine TF.nil (nx_then ?_)
            refine cw_ret (rt_then (fin2 (v := (.int .u64 _)) (v' := (.int .i64 _)) Try.results16 rfl rfl rfl rfl ?_))
            exact ⟨by rw [takeS_short (by omega) (by omega)]; rfl, H.base⟩
          ·
            have hp10 := dF hq10
            refine cw_skip (nx_then ?_)
            refine cw_seq ?_
            -- region 5 ref.go:41
            refine cw_region (clf [.U]) [0] rfl (by kernel_rfl) ?_
            obtain ⟨a, rfl⟩ := Int.eq_ofNat_of_zero_le (show 0 ≤ at_ by omega)
            obtain ⟨wd, rfl⟩ := Int.eq_ofNat_of_zero_le (show 0 ≤ width by omega)
            have hln : ((bs.drop a).take wd).length = wd := by rw [List.length_take, List.length_drop]; omega
            refine TF.u (v := (.int .u64 _)) rfl rfl (pr_assign rfl) ?_
            refine TF.nil (nx_then ?_)
            refine cw_seq ?_
            refine cw_seq ?_
            -- region 6 ref.go:42
            refine cw_region (clf [.U]) [0] rfl (by kernel_rfl) ?_
            refine TF.u (v := (.int .i64 _)) rfl rfl (pr_assign rfl) ?_
            refine TF.nil (nx_then ?_)
            refine cw_block ?_
            refine cw_loop (fun m f w => ∃ (g_ : Nat → Value) (i : Nat), m = wd - i ∧ f = (upd (upd (upd (upd (upd g_ 0 (T bs)) 1 (.int .i64 (a : Int))) 2 (.int .i64 (wd : Int))) 9 (.int .i64 (i : Int))) 8 (.int .u64 ((unbe (((bs.drop a).take wd).take i) : Nat) : Int))) ∧ Sat [] w0 w [] ∧ i ≤ wd) (wd - 0) ?_ ?_
            ·
              exact ⟨_, 0, rfl, (cutS (cutS (cutS (cutS (cutS rfl rfl) rfl) rfl) rfl) rfl), H, Nat.zero_le _⟩
            ·
              clear H
              rintro m_ f_ w ⟨g_, i, rfl, rfl, H, hi⟩
              refine cw_seq ?_
              refine cw_seq ?_
              -- region 7 ref.go:42
              refine cw_region (clf [.U, .U, .U]) [0, 1, 2] rfl (by kernel_rfl) ?_
              refine TF.u (v := (.int .i64 _)) rfl rfl (pr_move rfl) ?_
              refine TF.u (v := (.int .i64 _)) rfl rfl (pr_move rfl) ?_
              refine TF.u (v := (.bool _)) rfl rfl (pr_lss rfl rfl) ?_
              refine TF.nil (nx_then ?_)
              refine cw_cond _ rfl rfl (fun hq12 => ?_) (fun hq12 => ?_)
              ·
                have hp12 := dT hq12
                refine cw_skip (nx_then ?_)
                refine cw_seq ?_
                refine cw_block ?_
                -- region 9 ref.go:43
                refine cw_region (clf [.U, .U, .U, .U, .U, .U, .U, .U, .U, .U]) [0, 1, 2, 3, 4, 5, 6, 7, 8, 9] rfl (by kernel_rfl) ?_
                have hul := unbe_lt (((bs.drop a).take wd).take i)
                rw [List.length_take, hln, Nat.min_eq_left (by omega)] at hul
                have hp7 : (256 : Nat) ^ i ≤ 256 ^ 7 := Nat.pow_le_pow_right (by omega) (by omega)
                have hby := (bs.getD ((a : Int) + (i : Int)).toNat 0).toNat_lt
                refine TF.u (v := (.int .u64 _)) rfl rfl (pr_move rfl) ?_
                refine TF.u (v := (.int .u64 _)) rfl rfl (pr_mul rfl rfl (IntWalk.u64_in _ (by omega))) ?_
                refine TF.u (v := (T _)) rfl rfl (pr_move rfl) ?_
                refine TF.u (v := (.int .i64 _)) rfl rfl (pr_move rfl) ?_
                refine TF.u (v := (.int .i64 _)) rfl rfl (pr_move rfl) ?_
                refine TF.u (v := (.int .i64 _)) rfl rfl (pr_add rfl rfl (IntWalk.i64_in _ (by omega))) ?_
                refine TF.u (v := (.int .u8 _)) rfl rfl (pr_sindex Try.underlying9 rfl rfl (by omega) (by omega) rfl) ?_
                refine TF.u (v := (.int .u64 _)) rfl rfl (pr_conv Try.underlying5 Try.underlying22 rfl (IntWalk.u64_in _ (by omega))) ?_
                refine TF.u (v := (.int .u64 _)) rfl rfl (pr_add rfl rfl (IntWalk.u64_in _ (by omega))) ?_
                refine TF.u (v := (.int .u64 _)) rfl rfl (pr_assign rfl) ?_
                refine TF.nil (nx_block (nx_then ?_))
                -- region 8 ref.go:42
                refine cw_region (clf [.U, .U, .U]) [0, 1, 2] rfl (by kernel_rfl) ?_
                refine TF.u (v := (.int .i64 _)) rfl rfl (pr_move rfl) ?_
                refine TF.u (v := (.int .i64 _)) rfl rfl (pr_add rfl rfl (IntWalk.i64_in _ (by omega))) ?_
                refine TF.u (v := (.int .i64 _)) rfl rfl (pr_assign rfl) ?_
                have htk := take_succ_getD ((bs.drop a).take wd) i (by rw [hln]; omega)
                have hgd := cut_getD bs a wd i (by omega)
                refine TF.nil (nx_loop (m' := wd - (i + 1)) (by omega) ?_)
                exact ⟨_, i + 1, rfl, (cutS (cutS (cutS (cutS (cutS rfl rfl) rfl) rfl) rfl) (by rw [htk, unbe_snoc, hgd]; rfl)), H, by omega⟩
              ·
                have hp12 := dF hq12
                refine cw_exit (ex_then (ex_then (ex_here (nx_then ?_))))
                refine cw_seq ?_
                -- region 10 ref.go:45
                refine cw_region (clf [.U, .U, .U]) [0, 1, 2] rfl (by kernel_rfl) ?_
                refine TF.u (v := (.int .u64 _)) rfl rfl (pr_move rfl) ?_
                refine TF.u (v := (.int .u64 _)) rfl rfl (pr_assign rfl) ?_
                refine TF.u (v := (.int .i64 _)) rfl rfl (pr_assign rfl) ?_
                refine TF.nil (nx_then ?_)
                refine cw_ret (fin2 (v := (.int .u64 _)) (v' := (.int .i64 _)) Try.results16 rfl rfl rfl rfl ?_)
                obtain rfl : i = wd := by omega
                rw [List.take_of_length_le (Nat.le_of_eq hln)]
                exact ⟨by rw [takeS_yes (by omega) (by omega) (by omega) (by omega) trivial], H.base⟩

theorem rputText_ok (bs s : List UInt8) (w0 : World) (hn : bs.length ≤ 140737488351232) (hs : s.length ≤ 140737488351232) :
    Calls Try.prog 20 #[T bs, T s] w0 fun e w => e = .returned (.tuple #[T (putTextS bs s).1, .int .i64 (putTextS bs s).2]) ∧ Below w0.heap.size w0 w := by
  refine enter (args := [T bs, T s]) Try.func20 rfl Try.ntmps20 rfl ?_
  have H := Sat.start w0
  refine cw_seq ?_
  -- region 0 ref.go:49
  refine cw_region (clf [.U, .U]) [0, 1] rfl (by kernel_rfl) ?_
  refine TF.u (v := (T _)) rfl rfl (pr_assign rfl) ?_
  refine TF.u (v := (.int .i64 _)) rfl rfl (pr_assign rfl) ?_
  refine TF.nil (nx_then ?_)
  refine cw_seq ?_
  refine cw_seq ?_
  -- region 1 ref.go:50
  refine cw_region (clf [.U, .U, .U]) [0, 1, 2] rfl (by kernel_rfl) ?_
  refine TF.u (v := (T _)) rfl rfl (pr_move rfl) ?_
  refine TF.u (v := (.int .i64 _)) rfl rfl (pr_slen rfl Try.underlying9 rfl) ?_
  refine TF.u (v := (.bool _)) rfl rfl (pr_gtr rfl rfl) ?_
  refine TF.nil (nx_then ?_)
  refine cw_cond _ rfl rfl (fun hq2 => ?_) (fun hq2 => ?_)
  ·
    have hp2 := dT hq2
    refine cw_seq ?_
    -- region 2 ref.go:51
    refine cw_region (clf [.U, .U]) [0, 1] rfl (by kernel_rfl) ?_
    refine TF.u (v := (T _)) rfl rfl (pr_assign rfl) ?_
    refine TF.u (v := (.int .i64 _)) rfl rfl (pr_assign rfl) ?_
    refine TF.nil (nx_then ?_)
    refine cw_ret (rt_then (fin2 (v := (T _)) (v' := (.int .i64 _)) Try.results20 rfl rfl rfl rfl ?_))
    exact ⟨by rw [putTextS_no (by omega)], H.base⟩
  ·
    have hp2 := dF hq2
    refine cw_skip (nx_then ?_)
    refine cw_seq ?_
    -- region 3 ref.go:53
    refine cw_region (clf [.U, .U, .U, .U, .X, .X, .U, .U, .U, .U, .U]) [0, 1, 2, 3, 4, 5, 6, 7, 8, 9, 10] rfl (by kernel_rfl) ?_
    refine TF.u (v := (T _)) rfl rfl (pr_move rfl) ?_
    refine TF.u (v := (T _)) rfl rfl (pr_move rfl) ?_
    refine TF.u (v := (.int .i64 _)) rfl rfl (pr_slen rfl Try.underlying9 rfl) ?_
    refine TF.u (v := (.int .u8 _)) rfl rfl (pr_conv Try.underlying3 Try.underlying5 rfl (len_byte (by omega))) ?_
    refine TF.lit (vs := [(.int .u8 _)]) H rfl (.inl rfl) (wantF_none rfl) Try.underlying24 (Try.ty5) rfl rfl rfl rfl rfl rfl ?_
    clear H
    intro bk3 w hltbk3 hb4 H
    replace H : Sat _ _ _ (cBlk _ _ (u8s [_]) :: _) := H
    replace H : Sat _ _ _ [_] := H
    refine TF.tostr ((H.blk (k := 0) rfl).own 1 rfl (by decide)).rd rfl rfl (wantF_none rfl) Try.underlying24 Try.underlying5 Try.underlying9 rfl ?_
    refine TF.u (v := (T _)) rfl rfl (pr_sadd rfl rfl (by simp; omega)) ?_
    refine TF.u (v := (T _)) rfl rfl (pr_move rfl) ?_
    refine TF.u (v := (T _)) rfl rfl (pr_sadd rfl rfl (by simp; omega)) ?_
    refine TF.u (v := (T _)) rfl rfl (pr_assign rfl) ?_
    refine TF.u (v := (.int .i64 _)) rfl rfl (pr_assign rfl) ?_
    refine TF.nil (nx_then ?_)
    refine cw_ret (fin2 (v := (T _)) (v' := (.int .i64 _)) Try.results20 rfl rfl rfl rfl ?_)
    exact ⟨by rw [putTextS_yes (by omega)], H.base⟩

theorem rtakeText_ok (bs : List UInt8) (at_ : Int) (w0 : World) (hn : bs.length ≤ 281474976710656) (ha : -9223372036854775808 ≤ at_) (ha2 : at_ ≤ 9223372036854775807) :
    Calls Try.prog 19 #[T bs, .int .i64 at_] w0 fun e w => e = .returned (.tuple #[T (takeTextS bs at_).1, .int .i64 (takeTextS bs at_).2.1, .int .i64 (takeTextS bs at_).2.2]) ∧ Below w0.heap.size w0 w := by
  refine enter (args := [T bs, .int .i64 at_]) Try.func19 rfl Try.ntmps19 rfl ?_
  have H := Sat.start w0
  refine cw_seq ?_
  -- region 0 ref.go:57
  refine cw_region (clf [.U, .U, .U]) [0, 1, 2] rfl (by kernel_rfl) ?_
  refine TF.u (v := (T _)) rfl rfl (pr_assign rfl) ?_
  refine TF.u (v := (.int .i64 _)) rfl rfl (pr_assign rfl) ?_
  refine TF.u (v := (.int .i64 _)) rfl rfl (pr_assign rfl) ?_
  refine TF.nil (nx_then ?_)
  refine cw_seq ?_
  refine cw_seq ?_
  -- region 1 ref.go:58
  refine cw_region (clf [.U, .U]) [0, 1] rfl (by kernel_rfl) ?_
  refine TF.u (v := (.int .i64 _)) rfl rfl (pr_move rfl) ?_
  refine TF.u (v := (.bool _)) rfl rfl (pr_lss rfl rfl) ?_
  refine TF.nil (nx_then ?_)
  refine cw_cond _ rfl rfl (fun hq2 => ?_) (fun hq2 => ?_)
  ·
    have hp2 := dT hq2
    refine cw_seq ?_
    -- region 2 ref.go:59
    refine cw_region (clf [.U, .U, .U]) [0, 1, 2] rfl (by kernel_rfl) ?_
    refine TF.u (v := (T _)) rfl rfl (pr_assign rfl) ?_
    refine TF.u (v := (.int .i64 _)) rfl rfl (pr_assign rfl) ?_
    refine TF.u (v := (.int .i64 _)) rfl rfl (pr_assign rfl) ?_
    refine TF.nil (nx_then ?_)
    refine cw_ret (rt_then (fin3 (v := (T _)) (v' := (.int .i64 _)) (v'' := (.int .i64 _)) Try.results19 rfl rfl rfl rfl rfl rfl ?_))
    exact ⟨by rw [takeTextS_err1 (by omega)], H.base⟩
  ·
    have hp2 := dF hq2
    refine cw_skip (nx_then ?_)
    refine cw_seq ?_
    refine cw_seq ?_
    -- region 3 ref.go:61
    refine cw_region (clf [.U, .U, .U, .U]) [0, 1, 2, 3] rfl (by kernel_rfl) ?_
    refine TF.u (v := (.int .i64 _)) rfl rfl (pr_move rfl) ?_
    refine TF.u (v := (T _)) rfl rfl (pr_move rfl) ?_
    refine TF.u (v := (.int .i64 _)) rfl rfl (pr_slen rfl Try.underlying9 rfl) ?_
    refine TF.u (v := (.bool _)) rfl rfl (pr_geq rfl rfl) ?_
    refine TF.nil (nx_then ?_)
    refine cw_cond _ rfl rfl (fun hq4 => ?_) (fun hq4 => ?_)
    ·
      have hp4 := dT hq4
      refine cw_seq ?_
      -- region 4 ref.go:62
      refine cw_region (clf [.U, .U, .U]) [0, 1, 2] rfl (by kernel_rfl) ?_
      refine TF.u (v := (T _)) rfl rfl (pr_assign rfl) ?_
      refine TF.u (v := (.int .i64 _)) rfl rfl (pr_assign rfl) ?_
      refine TF.u (v := (.int .i64 _)) rfl rfl (pr_assign rfl) ?_
      refine TF.nil (nx_then ?_)
      refine cw_ret (rt_then (fin3 (v := (T _)) (v' := (.int .i64 _)) (v'' := (.int .i64 _)) Try.results19 rfl rfl rfl rfl rfl rfl ?_))
      exact ⟨by rw [takeTextS_err4 (by omega) (by omega)], H.base⟩
    ·
      have hp4 := dF hq4
      refine cw_skip (nx_then ?_)
      refine cw_seq ?_
      -- region 5 ref.go:64
      refine cw_region (clf [.U, .U, .U, .U, .U]) [0, 1, 2, 3, 4] rfl (by kernel_rfl) ?_
      obtain ⟨a, rfl⟩ := Int.eq_ofNat_of_zero_le (show 0 ≤ at_ by omega)
      have hby := (bs.getD a 0).toNat_lt
      have hne := takeS_at (b := bs) (a := a) (by omega)
      refine TF.u (v := (T _)) rfl rfl (pr_move rfl) ?_
      refine TF.u (v := (.int .i64 _)) rfl rfl (pr_move rfl) ?_
      refine TF.u (v := (.int .u8 ((bs.getD a 0).toNat : Int))) rfl rfl (pr_sindex Try.underlying9 rfl rfl (by omega) (by omega) (by rw [Int.toNat_natCast])) ?_
      refine TF.u (v := (.int .i64 _)) rfl rfl (pr_conv Try.underlying5 Try.underlying3 rfl (IntWalk.i64_in _ (by omega))) ?_
      refine TF.u (v := (.int .i64 _)) rfl rfl (pr_assign rfl) ?_
      refine TF.nil (nx_then ?_)
      refine cw_seq ?_
      refine cw_seq ?_
      -- region 6 ref.go:65
      refine cw_region (clf [.U, .U, .U, .U, .U, .U, .U]) [0, 1, 2, 3, 4, 5, 6] rfl (by kernel_rfl) ?_
      refine TF.u (v := (T _)) rfl rfl (pr_move rfl) ?_
      refine TF.u (v := (.int .i64 _)) rfl rfl (pr_slen rfl Try.underlying9 rfl) ?_
      refine TF.u (v := (.int .i64 _)) rfl rfl (pr_move rfl) ?_
      refine TF.u (v := (.int .i64 _)) rfl rfl (pr_sub rfl rfl (IntWalk.i64_in _ (by omega))) ?_
      refine TF.u (v := (.int .i64 _)) rfl rfl (pr_sub rfl rfl (IntWalk.i64_in _ (by omega))) ?_
      refine TF.u (v := (.int .i64 _)) rfl rfl (pr_move rfl) ?_
      refine TF.u (v := (.bool _)) rfl rfl (pr_lss rfl rfl) ?_
      refine TF.nil (nx_then ?_)
      refine cw_cond _ rfl rfl (fun hq6 => ?_) (fun hq6 => ?_)
      ·
        have hp6 := dT hq6
        refine cw_seq ?_
        -- region 7 ref.go:66
        refine cw_region (clf [.U, .U, .U]) [0, 1, 2] rfl (by kernel_rfl) ?_
        refine TF.u (v := (T _)) rfl rfl (pr_assign rfl) ?_
        refine TF.u (v := (.int .i64 _)) rfl rfl (pr_assign rfl) ?_
        refine TF.u (v := (.int .i64 _)) rfl rfl (pr_assign rfl) ?_
        refine TF.nil (nx_then ?_)
        refine cw_ret (rt_then (fin3 (v := (T _)) (v' := (.int .i64 _)) (v'' := (.int .i64 _)) Try.results19 rfl rfl rfl rfl rfl rfl ?_))
        exact ⟨by rw [takeTextS_short hne (by omega)], H.base⟩
      ·
        have hp6 := dF hq6
        refine cw_skip (nx_then ?_)
        refine cw_seq ?_
        -- region 8 ref.go:68
        refine cw_region (clf [.U, .U, .U, .U, .U, .U, .U, .U, .U, .U, .U, .U, .U, .U, .U]) [0, 1, 2, 3, 4, 5, 6, 7, 8, 9, 10, 11, 12, 13, 14] rfl (by kernel_rfl) ?_
        refine TF.u (v := (T _)) rfl rfl (pr_move rfl) ?_
        refine TF.u (v := (.int .i64 _)) rfl rfl (pr_move rfl) ?_
        refine TF.u (v := (.int .i64 _)) rfl rfl (pr_add rfl rfl (IntWalk.i64_in _ (by omega))) ?_
        refine TF.u (v := (.int .i64 _)) rfl rfl (pr_move rfl) ?_
        refine TF.u (v := (.int .i64 _)) rfl rfl (pr_add rfl rfl (IntWalk.i64_in _ (by omega))) ?_
        refine TF.u (v := (.int .i64 _)) rfl rfl (pr_move rfl) ?_
        refine TF.u (v := (.int .i64 _)) rfl rfl (pr_add rfl rfl (IntWalk.i64_in _ (by omega))) ?_
        refine TF.u (v := (T _)) rfl rfl (pr_sslice (l := a + 1) (h := a + 1 + (bs.getD a 0).toNat) Try.underlying9 rfl (.inr ⟨_, _, rfl, (by rfl)⟩) (.inr ⟨_, _, rfl, (by rfl)⟩) (by omega) (by omega)) ?_
        refine TF.u (v := (.int .i64 _)) rfl rfl (pr_move rfl) ?_
        refine TF.u (v := (.int .i64 _)) rfl rfl (pr_add rfl rfl (IntWalk.i64_in _ (by omega))) ?_
        refine TF.u (v := (.int .i64 _)) rfl rfl (pr_move rfl) ?_
        refine TF.u (v := (.int .i64 _)) rfl rfl (pr_add rfl rfl (IntWalk.i64_in _ (by omega))) ?_
        refine TF.u (v := (T _)) rfl rfl (pr_assign rfl) ?_
        refine TF.u (v := (.int .i64 _)) rfl rfl (pr_assign rfl) ?_
        refine TF.u (v := (.int .i64 _)) rfl rfl (pr_assign rfl) ?_
        refine TF.nil (nx_then ?_)
        refine cw_ret (fin3 (v := (T _)) (v' := (.int .i64 _)) (v'' := (.int .i64 _)) Try.results19 rfl rfl rfl rfl rfl rfl ?_)
        exact ⟨by rw [takeTextS_yes hne (by omega) rfl, List.drop_take, Nat.add_sub_cancel_left], H.base⟩

theorem awake_ok (w0 : World) : Calls Try.prog 10 #[] w0 fun e w => e = .returned (.bool true) ∧ Below w0.heap.size w0 w := by
  refine enter (args := []) Try.func10 rfl Try.ntmps10 rfl ?_
  have H := Sat.start w0
  refine cw_seq ?_
  -- region 0 law.go:11
  refine cw_region (clf [.U]) [0] rfl (by kernel_rfl) ?_
  refine TF.u (v := (.bool _)) rfl rfl (pr_assign rfl) ?_
  refine TF.nil (nx_then ?_)
  refine cw_seq ?_
  -- region 1 law.go:12
  refine cw_region (clf [.X, .U, .U, .U, .U, .U]) [0, 1, 2, 3, 4, 5] rfl (by kernel_rfl) ?_
  refine TF.call (args := [(.slice _ _ _), (.int .i64 _), (.int .u64 _)]) Try.fn11 rfl rfl (wantF_none rfl) rfl (put_ok _ _ _ [] 2 258 _ (RdS.nil _ _) (by omega) (by omega) (by omega) (by omega)) ?_
  rintro e_ w1 ⟨A1, n1, c1, rfl, hn1⟩
  refine ⟨_, rfl, ?_⟩
  replace H := H.newS hn1
  refine TF.u (v := (.tuple _)) rfl rfl (pr_move rfl) ?_
  refine TF.u (v := (.slice _ _ _)) rfl rfl (pr_extract (vs := _) rfl rfl) ?_
  refine TF.u (v := (.int .i64 _)) rfl rfl (pr_extract (vs := _) rfl rfl) ?_
  refine TF.u (v := (.slice _ _ _)) rfl rfl (pr_assign rfl) ?_
  refine TF.u (v := (.int .i64 _)) rfl rfl (pr_assign rfl) ?_
  refine TF.nil (nx_then ?_)
  refine cw_seq ?_
  -- region 2 law.go:13
  refine cw_region (clf [.X, .X, .U, .U, .U, .U, .U]) [0, 1, 2, 3, 4, 5, 6] rfl (by kernel_rfl) ?_
  refine TF.lit (vs := [(.int .u8 _), (.int .u8 _), (.int .u8 _)]) H rfl (.inl rfl) (wantF_none rfl) Try.underlying24 (Try.ty5) rfl rfl rfl rfl rfl rfl ?_
  clear H
  intro bk3 w hltbk3 hb4 H
  refine TF.call (args := [(.slice _ _ _), (.int .i64 _), (.int .i64 _)]) Try.fn15 rfl rfl (wantF_none rfl) rfl (take_ok _ 3 3 [1, 2, 3] _ _ _ ((H.blk (k := 0) rfl).own 3 rfl (by decide)).rd (by omega) (by omega) (by omega) (by omega) (by omega)) ?_
  rintro e_ w1 ⟨rfl, hb5⟩
  refine ⟨_, rfl, ?_⟩
  replace H := H.below hb5
  refine TF.u (v := (.tuple _)) rfl rfl (pr_move rfl) ?_
  refine TF.u (v := (.int .u64 _)) rfl rfl (pr_extract (vs := _) rfl rfl) ?_
  refine TF.u (v := (.int .i64 _)) rfl rfl (pr_extract (vs := _) rfl rfl) ?_
  refine TF.u (v := (.int .u64 _)) rfl rfl (pr_assign rfl) ?_
  refine TF.u (v := (.int .i64 _)) rfl rfl (pr_assign rfl) ?_
  refine TF.nil (nx_then ?_)
  refine cw_seq ?_
  -- region 3 law.go:14
  refine cw_region (clf [.U, .U, .U, .U, .U, .U, .U, .U, .U, .U, .U, .U, .U, .U, .X, .U, .U, .U, .U, .U, .X, .U, .U, .U, .U, .U, .U, .U]) [0, 1, 2, 3, 4, 5, 6, 7, 8, 9, 10, 11, 12, 13, 14, 15, 16, 17, 18, 19, 20, 21, 22, 23, 24, 25, 26, 27] rfl (by kernel_rfl) ?_
  have e1 : putS [] 2 258 = ([1, 2], 0) := by decide
  have e2 : takeS [1, 2, 3] 1 2 = (515, 0) := by decide
  rw [e1] at H ⊢
  rw [e2]
  have hl2 := (H.rdB (k := 1) rfl).length
  simp only [List.length_cons, List.length_nil] at hl2
  refine TF.u (v := (.int .i64 _)) rfl rfl (pr_move rfl) ?_
  refine TF.u (v := (.bool _)) rfl rfl (pr_eql rfl rfl) ?_
  refine TF.u (v := (.bool _)) rfl rfl (pr_move rfl) ?_
  refine TF.split (dj := 16) rfl ?_ (fun hq7 => by
      have hp7 := dF hq7
      exfalso
      first | omega | exact hp7 rfl | exact hp7 (by decide) | (simp at hp7; done))
  intro hq7
  have hp7 := dT hq7
  refine TF.ug (v := (.int .i64 _)) rfl rfl (wantF_yes rfl rfl rfl hq7) (pr_move rfl) ?_
  refine TF.ug (v := (.bool _)) rfl rfl (wantF_yes rfl rfl rfl hq7) (pr_eql rfl rfl) ?_
  refine TF.u (v := (.bool _)) rfl rfl (pr_pickT rfl hq7 rfl) ?_
  refine TF.u (v := (.bool _)) rfl rfl (pr_move rfl) ?_
  refine TF.split (dj := 20) rfl ?_ (fun hq9 => by
      have hp9 := dF hq9
      exfalso
      first | omega | exact hp9 rfl | exact hp9 (by decide) | (simp at hp9; done))
  intro hq9
  have hp9 := dT hq9
  refine TF.ug (v := (.slice _ _ _)) rfl rfl (wantF_yes rfl rfl rfl hq9) (pr_move rfl) ?_
  refine TF.ug (v := (.int .i64 _)) rfl rfl (wantF_yes rfl rfl rfl hq9) (pr_len rfl Try.underlying24 rfl) ?_
  refine TF.ug (v := (.bool _)) rfl rfl (wantF_yes rfl rfl rfl hq9) (pr_eql rfl rfl) ?_
  refine TF.u (v := (.bool _)) rfl rfl (pr_pickT rfl hq9 rfl) ?_
  refine TF.u (v := (.bool _)) rfl rfl (pr_move rfl) ?_
  refine TF.split (dj := 25) rfl ?_ (fun hq11 => by
      have hp11 := dF hq11
      exfalso
      first | omega | exact hp11 rfl | exact hp11 (by decide) | (simp at hp11; done))
  intro hq11
  have hp11 := dT hq11
  refine TF.ug (v := (.slice _ _ _)) rfl rfl (wantF_yes rfl rfl rfl hq11) (pr_move rfl) ?_
  refine TF.idxB (H.rd (k := 1) rfl) rfl rfl (wantF_yes rfl rfl rfl hq11) Try.underlying24 (Try.ty5.s) rfl rfl (by omega) (by omega) ?_
  intro p12 hc13
  refine TF.load (v := (.int .u8 _)) rfl rfl (wantF_yes rfl rfl rfl hq11) Try.underlying5 rfl rfl hc13 ?_
  refine TF.ug (v := (.bool _)) rfl rfl (wantF_yes rfl rfl rfl hq11) (pr_eql rfl rfl) ?_
  refine TF.u (v := (.bool _)) rfl rfl (pr_pickT rfl hq11 rfl) ?_
  refine TF.u (v := (.bool _)) rfl rfl (pr_move rfl) ?_
  refine TF.split (dj := 31) rfl ?_ (fun hq15 => by
      have hp15 := dF hq15
      exfalso
      first | omega | exact hp15 rfl | exact hp15 (by decide) | (simp at hp15; done))
  intro hq15
  have hp15 := dT hq15
  refine TF.ug (v := (.slice _ _ _)) rfl rfl (wantF_yes rfl rfl rfl hq15) (pr_move rfl) ?_
  refine TF.idxB (H.rd (k := 1) rfl) rfl rfl (wantF_yes rfl rfl rfl hq15) Try.underlying24 (Try.ty5.s) rfl rfl (by omega) (by omega) ?_
  intro p16 hc17
  refine TF.load (v := (.int .u8 _)) rfl rfl (wantF_yes rfl rfl rfl hq15) Try.underlying5 rfl rfl hc17 ?_
  refine TF.ug (v := (.bool _)) rfl rfl (wantF_yes rfl rfl rfl hq15) (pr_eql rfl rfl) ?_
  refine TF.u (v := (.bool _)) rfl rfl (pr_pickT rfl hq15 rfl) ?_
  refine TF.u (v := (.bool _)) rfl rfl (pr_move rfl) ?_
  refine TF.split (dj := 37) rfl ?_ (fun hq19 => by
      have hp19 := dF hq19
      exfalso
      first | omega | exact hp19 rfl | exact hp19 (by decide) | (simp at hp19; done))
  intro hq19
  have hp19 := dT hq19
  refine TF.ug (v := (.int .u64 _)) rfl rfl (wantF_yes rfl rfl rfl hq19) (pr_move rfl) ?_
  refine TF.ug (v := (.bool _)) rfl rfl (wantF_yes rfl rfl rfl hq19) (pr_eql rfl rfl) ?_
  refine TF.u (v := (.bool _)) rfl rfl (pr_pickT rfl hq19 rfl) ?_
  refine TF.u (v := (.bool _)) rfl rfl (pr_assign rfl) ?_
  refine TF.nil (nx_then ?_)
  refine cw_ret (fin1 (v := (.bool _)) Try.results10 rfl rfl ?_)
  exact ⟨rfl, H.base⟩
end Go.Proofs.Ytkcjgkbcmhgloaa
