/- What the functions of this seat compute, each walked once (no condition but those in each statement): pack.behind, pack.Fits, pack.Put, pack.Take, quaysideref01.Number, quaysideref01.Take, sum.turn, sum.More, sum.Of, sum.Seal, sum.Open, quaysideref02.run, quaysideref02.Of, quaysideref02.Seal -/
import Derived.Test.YtpncaeadbfdflaaCore7
import Derived.Test.YtpncaeadbfdflaaMath
import Derived.Test.YtpncaeadbfdflaaMath1
import Derived.Test.YtpncaeadbfdflaaCrc
import Derived.Test.YtpncaeadbfdflaaCrc2
import Derived.Test.YtpncaeadbfdflaaCrc3
import Derived.Test.YtpncaeadbfdflaaCore8
import Derived.Test.YtpncaeadbfdflaaCore9
import Derived.Test.YtpncaeadbfdflaaCore10
import Derived.Test.YtpncaeadbfdflaaCore11
import Derived.Test.YtpncaeadbfdflaaPage
import Derived.Test.YtpncaeadbfdflaaPageV
import Derived.Test.YtpncaeadbfdflaaArgs
import Derived.Test.YtpncaeadbfdflaaProg
import Derived.KernelRfl
set_option linter.unusedSimpArgs false
set_option linter.unusedVariables false
set_option maxRecDepth 10000
namespace Go.Proofs.Ytpncaeadbfdflaa
open Go.Q Go.RowKit Go.Proofs
theorem Try.wide_ : Go.Proofs.Try.prog.follows .mixedOrders = true := by kernel_rfl
theorem Try.ty5 : Ty Try.prog 5 (.int .u8) (.int .u8 0) 1 1 := ty_mk (by kernel_rfl) (by kernel_rfl)
theorem Try.fn54 : Fnc Try.prog 54 Try.f54 := ⟨Try.func54, by kernel_rfl, by kernel_rfl⟩
theorem Try.fn59 : Fnc Try.prog 59 Try.f59 := ⟨Try.func59, by kernel_rfl, by kernel_rfl⟩
theorem Try.fn61 : Fnc Try.prog 61 Try.f61 := ⟨Try.func61, by kernel_rfl, by kernel_rfl⟩
theorem Try.fn62 : Fnc Try.prog 62 Try.f62 := ⟨Try.func62, by kernel_rfl, by kernel_rfl⟩
theorem Try.fn63 : Fnc Try.prog 63 Try.f63 := ⟨Try.func63, by kernel_rfl, by kernel_rfl⟩
theorem Try.fn64 : Fnc Try.prog 64 Try.f64 := ⟨Try.func64, by kernel_rfl, by kernel_rfl⟩
theorem Try.fn65 : Fnc Try.prog 65 Try.f65 := ⟨Try.func65, by kernel_rfl, by kernel_rfl⟩
theorem behind_ok (A : Option Addr) (n c : Nat) (bs : List UInt8) (more : Nat) (w0 : World) (hb : RdB w0 A n c bs) (hn : n ≤ 140737488351232) (hm : more ≤ 140737488355328) :
    Calls Try.prog 62 #[.slice A n c, .int .i64 (more : Int)] w0 fun e w => ∃ A1 c1, e = .returned (.slice A1 n c1) ∧ NewB w0 w 5 A1 n c1 bs ∧ n + more ≤ c1 := by
  refine enter (args := [.slice A n c, .int .i64 (more : Int)]) Try.func62 rfl Try.ntmps62 rfl ?_
  have H := Sat.start w0
  refine cw_seq ?_
  -- region 0 pack.go:12
  refine cw_region (clf [.U]) [0] rfl (by kernel_rfl) (by decide) ?_
  refine TF.u (v := (.slice _ _ _)) rfl rfl (pr_assign rfl) ?_
  refine TF.nil (nx_then ?_)
  refine cw_seq ?_
  -- region 1 pack.go:13
  refine cw_region (clf [.U, .U, .U, .U, .U, .U, .X, .U]) [0, 1, 2, 3, 4, 5, 6, 7] rfl (by kernel_rfl) (by decide) ?_
  refine TF.u (v := (.slice _ _ _)) rfl rfl (pr_move rfl) ?_
  refine TF.u (v := (.int .i64 _)) rfl rfl (pr_len rfl Try.underlying34 rfl) ?_
  refine TF.u (v := (.slice _ _ _)) rfl rfl (pr_move rfl) ?_
  refine TF.u (v := (.int .i64 _)) rfl rfl (pr_len rfl Try.underlying34 rfl) ?_
  refine TF.u (v := (.int .i64 _)) rfl rfl (pr_move rfl) ?_
  refine TF.u (v := (.int .i64 _)) rfl rfl (pr_add rfl rfl (IntWalk.i64_in _ (by omega))) ?_
  refine TF.make (nl := n) (nc := n + more) (z1 := undef) H rfl (Cx.xx rfl) (wantF_none rfl) Try.underlying34 (Try.ty5) rfl (by rfl) (by omega) (by omega) (by unfold maxLen; omega) ?_
  clear H
  intro bk1 w hltbk1 hb2 H
  rw [made_u8] at H
  refine TF.u (v := (.slice _ _ _)) rfl rfl (pr_assign rfl) ?_
  refine TF.nil (nx_then ?_)
  refine cw_seq ?_
  -- region 2 pack.go:14
  refine cw_region (clf [.U, .U, .X]) [0, 1, 2] rfl (by kernel_rfl) (by decide) ?_
  refine TF.u (v := (.slice _ _ _)) rfl rfl (pr_move rfl) ?_
  refine TF.u (v := (.slice _ _ _)) rfl rfl (pr_move rfl) ?_
  have hl := hb.length
  refine TF.copy (q := 0) (v := (.slice _ _ _)) (m := n) (m' := n) (news := u8s (bs.take n)) H rfl rfl rfl (wantF_none rfl) Try.underlying34 (Try.ty5.s) rfl rfl (fun _ => rfl) (Nat.min_self _) (first_rdB (hb.below H.base) (Nat.le_refl _)) (fun _ => u8s_one) (by simp [u8s_len]; omega) ?_
  clear H
  intro w ho1 H
  replace H : Sat _ _ _ [_] := H
  rw [List.take_of_length_le (Nat.le_of_eq hl)] at H
  simp only [List.take_zero, List.nil_append, Nat.zero_add, u8s_len, u8s_drop, List.drop_replicate] at H
  replace H := H.toOwn (q := 0) (sz := 1) (nl := n) (nc := n + more) rfl (by simp [u8s_len]; omega) (by omega) (by unfold maxLen; omega)
  replace H : Sat _ _ _ [_] := H
  rw [← u8s_app, u8s_take, Nat.mul_one, List.take_left' hl] at H
  refine TF.nil (nx_then ?_)
  refine cw_seq ?_
  -- region 3 pack.go:15
  refine cw_region (clf [.U, .U]) [0, 1] rfl (by kernel_rfl) (by decide) ?_
  refine TF.u (v := (.slice _ _ _)) rfl rfl (pr_move rfl) ?_
  refine TF.u (v := (.slice _ _ _)) rfl rfl (pr_assign rfl) ?_
  refine TF.nil (nx_then ?_)
  refine cw_ret (fin1 (v := (.slice _ _ _)) Try.results62 rfl rfl ?_)
  exact ⟨_, _, rfl, H.toNew (k := 0) rfl, by omega⟩

theorem fits_ok (width : Int) (n : Nat) (w0 : World) (hw : -9223372036854775808 ≤ width) (hw2 : width ≤ 9223372036854775807) (hn : n < 18446744073709551616) :
    Calls Try.prog 61 #[.int .i64 width, .int .u64 (n : Int)] w0 fun e w => e = .returned (.bool (fitsS width n)) ∧ Below w0.heap.size w0 w := by
  refine enter (args := [.int .i64 width, .int .u64 (n : Int)]) Try.func61 rfl Try.ntmps61 rfl ?_
  have H := Sat.start w0
  refine cw_seq ?_
  -- region 0 pack.go:7
  refine cw_region (clf [.U]) [0] rfl (by kernel_rfl) (by decide) ?_
  refine TF.u (v := (.bool _)) rfl rfl (pr_assign rfl) ?_
  refine TF.nil (nx_then ?_)
  refine cw_seq ?_
  -- region 1 pack.go:8
  refine cw_region (clf [.U, .U, .U, .U, .U, .U, .U, .U, .U, .U, .U, .U, .U, .U, .U, .U, .U, .U]) [0, 1, 2, 3, 4, 5, 6, 7, 8, 9, 10, 11, 12, 13, 14, 15, 16, 17] rfl (by kernel_rfl) (by decide) ?_
  refine TF.u (v := (.int .i64 _)) rfl rfl (pr_move rfl) ?_
  refine TF.u (v := (.bool _)) rfl rfl (pr_geq rfl rfl) ?_
  refine TF.u (v := (.bool _)) rfl rfl (pr_move rfl) ?_
  refine TF.split (dj := 7) rfl (fun hq2 => ?_) (fun hq2 => ?_)
  ·
    have hp2 := dT hq2
    refine TF.ug (v := (.int .i64 _)) rfl rfl (wantF_yes rfl rfl rfl hq2) (pr_move rfl) ?_
    refine TF.ug (v := (.bool _)) rfl rfl (wantF_yes rfl rfl rfl hq2) (pr_leq rfl rfl) ?_
    refine TF.u (v := (.bool _)) rfl rfl (pr_pickT rfl hq2 rfl) ?_
    refine TF.u (v := (.bool _)) rfl rfl (pr_move rfl) ?_
    refine TF.split (dj := 11) rfl (fun hq4 => ?_) (fun hq4 => ?_)
    ·
      have hp4 := dT hq4
      refine TF.ug (v := (.int .i64 _)) rfl rfl (wantF_yes rfl rfl rfl hq4) (pr_move rfl) ?_
      refine TF.ug (v := (.bool _)) rfl rfl (wantF_yes rfl rfl rfl hq4) (pr_eql rfl rfl) ?_
      refine TF.ug (v := (.bool _)) rfl rfl (wantF_yes rfl rfl rfl hq4) (pr_move rfl) ?_
      refine TF.split (dj := 14) rfl (fun hq6 => ?_) (fun hq6 => ?_)
      ·
        have hp6 := dT hq6
        refine TF.skip rfl (wantF_no rfl rfl rfl hq6) ?_
        refine TF.skip rfl (wantF_no rfl rfl rfl hq6) ?_
        refine TF.skip rfl (wantF_no rfl rfl rfl hq6) ?_
        refine TF.skip rfl (wantF_no rfl rfl rfl hq6) ?_
        refine TF.skip rfl (wantF_no rfl rfl rfl hq6) ?_
        refine TF.ug (v := (.bool _)) rfl rfl (wantF_yes rfl rfl rfl hq4) (pr_pickT rfl hq6 rfl) ?_
        refine TF.u (v := (.bool _)) rfl rfl (pr_pickT rfl hq4 rfl) ?_
        refine TF.u (v := (.bool _)) rfl rfl (pr_assign rfl) ?_
        refine TF.nil (nx_then ?_)
        refine cw_ret (fin1 (v := (.bool _)) Try.results61 rfl rfl ?_)
        exact ⟨congrArg _ (congrArg _ (fits_end (by first | exact .inl ⟨by omega, by first | rfl | assumption⟩ | exact .inr (.inl ⟨by omega, by first | rfl | assumption⟩) | exact .inr (.inr (.inl ⟨by omega, by omega, by first | rfl | assumption⟩)) | exact .inr (.inr (.inr ⟨by omega, by omega, rfl⟩))))), H.base⟩
      ·
        have hp6 := dF hq6
        refine TF.ug (v := (.int .u64 _)) rfl rfl (wantF_yes rfl rfl rfl hq6) (pr_move rfl) ?_
        refine TF.ug (v := (.int .i64 _)) rfl rfl (wantF_yes rfl rfl rfl hq6) (pr_move rfl) ?_
        refine TF.ug (v := (.int .i64 _)) rfl rfl (wantF_yes rfl rfl rfl hq6) (pr_mul rfl rfl (IntWalk.i64_in _ (by omega))) ?_
        refine TF.ug (v := (.int .u64 _)) rfl rfl (wantF_yes rfl rfl rfl hq6) (pr_shr rfl rfl (by omega) rfl) ?_
        refine TF.ug (v := (.bool _)) rfl rfl (wantF_yes rfl rfl rfl hq6) (pr_eql rfl rfl) ?_
        refine TF.ug (v := (.bool _)) rfl rfl (wantF_yes rfl rfl rfl hq4) (pr_pickF rfl hq6 rfl) ?_
        refine TF.u (v := (.bool _)) rfl rfl (pr_pickT rfl hq4 rfl) ?_
        refine TF.u (v := (.bool _)) rfl rfl (pr_assign rfl) ?_
        refine TF.nil (nx_then ?_)
        refine cw_ret (fin1 (v := (.bool _)) Try.results61 rfl rfl ?_)
        exact ⟨congrArg _ (congrArg _ (fits_end (by first | exact .inl ⟨by omega, by first | rfl | assumption⟩ | exact .inr (.inl ⟨by omega, by first | rfl | assumption⟩) | exact .inr (.inr (.inl ⟨by omega, by omega, by first | rfl | assumption⟩)) | exact .inr (.inr (.inr ⟨by omega, by omega, rfl⟩))))), H.base⟩
    ·
      have hp4 := dF hq4
      refine TF.skip rfl (wantF_no rfl rfl rfl hq4) ?_
      refine TF.skip rfl (wantF_no rfl rfl rfl hq4) ?_
      refine TF.skip rfl (wantF_no rfl rfl rfl hq4) ?_
      refine TF.skip rfl (wantF_undef rfl rfl rfl) ?_
      refine TF.skip rfl (wantF_undef rfl rfl rfl) ?_
      refine TF.skip rfl (wantF_undef rfl rfl rfl) ?_
      refine TF.skip rfl (wantF_undef rfl rfl rfl) ?_
      refine TF.skip rfl (wantF_undef rfl rfl rfl) ?_
      refine TF.skip rfl (wantF_no rfl rfl rfl hq4) ?_
      refine TF.u (v := (.bool _)) rfl rfl (pr_pickF rfl hq4 rfl) ?_
      refine TF.u (v := (.bool _)) rfl rfl (pr_assign rfl) ?_
      refine TF.nil (nx_then ?_)
      refine cw_ret (fin1 (v := (.bool _)) Try.results61 rfl rfl ?_)
      exact ⟨congrArg _ (congrArg _ (fits_end (by first | exact .inl ⟨by omega, by first | rfl | assumption⟩ | exact .inr (.inl ⟨by omega, by first | rfl | assumption⟩) | exact .inr (.inr (.inl ⟨by omega, by omega, by first | rfl | assumption⟩)) | exact .inr (.inr (.inr ⟨by omega, by omega, rfl⟩))))), H.base⟩
  ·
    have hp2 := dF hq2
    refine TF.skip rfl (wantF_no rfl rfl rfl hq2) ?_
    refine TF.skip rfl (wantF_no rfl rfl rfl hq2) ?_
    refine TF.u (v := (.bool _)) rfl rfl (pr_pickF rfl hq2 rfl) ?_
    refine TF.u (v := (.bool _)) rfl rfl (pr_move rfl) ?_
    refine TF.skip rfl (wantF_no rfl rfl rfl rfl) ?_
    refine TF.skip rfl (wantF_no rfl rfl rfl rfl) ?_
    refine TF.skip rfl (wantF_no rfl rfl rfl rfl) ?_
    refine TF.skip rfl (wantF_undef rfl rfl rfl) ?_
    refine TF.skip rfl (wantF_undef rfl rfl rfl) ?_
    refine TF.skip rfl (wantF_undef rfl rfl rfl) ?_
    refine TF.skip rfl (wantF_undef rfl rfl rfl) ?_
    refine TF.skip rfl (wantF_undef rfl rfl rfl) ?_
    refine TF.skip rfl (wantF_no rfl rfl rfl rfl) ?_
    refine TF.u (v := (.bool _)) rfl rfl (pr_pickF rfl rfl rfl) ?_
    refine TF.u (v := (.bool _)) rfl rfl (pr_assign rfl) ?_
    refine TF.nil (nx_then ?_)
    refine cw_ret (fin1 (v := (.bool _)) Try.results61 rfl rfl ?_)
    exact ⟨congrArg _ (congrArg _ (fits_end (by first | exact .inl ⟨by omega, by first | rfl | assumption⟩ | exact .inr (.inl ⟨by omega, by first | rfl | assumption⟩) | exact .inr (.inr (.inl ⟨by omega, by omega, by first | rfl | assumption⟩)) | exact .inr (.inr (.inr ⟨by omega, by omega, rfl⟩))))), H.base⟩

theorem put_ok (A : Option Addr) (n c : Nat) (bs : List UInt8) (width : Int) (v : Nat) (w0 : World) (hb : RdB w0 A n c bs) (hn : n ≤ 140737488351232) (hw : -9223372036854775808 ≤ width) (hw2 : width ≤ 9223372036854775807) (hv : v < 18446744073709551616) :
    Calls Try.prog 56 #[.slice A n c, .int .i64 width, .int .u64 (v : Int)] w0 fun e w => ∃ A1 n1 c1, e = .returned (.tuple #[.slice A1 n1 c1, .int .i64 (putS bs width v).2]) ∧ NewB w0 w 5 A1 n1 c1 (putS bs width v).1 := by
  refine enter (args := [.slice A n c, .int .i64 width, .int .u64 (v : Int)]) Try.func56 rfl Try.ntmps56 rfl ?_
  have H := Sat.start w0
  refine cw_seq ?_
  -- region 0 pack.go:19
  refine cw_region (clf [.U, .U]) [0, 1] rfl (by kernel_rfl) (by decide) ?_
  refine TF.u (v := (.slice _ _ _)) rfl rfl (pr_assign rfl) ?_
  refine TF.u (v := (.int .i64 _)) rfl rfl (pr_assign rfl) ?_
  refine TF.nil (nx_then ?_)
  refine cw_seq ?_
  refine cw_seq ?_
  -- region 1 pack.go:20
  refine cw_region (clf [.U, .U, .X, .U]) [0, 1, 2, 3] rfl (by kernel_rfl) (by decide) ?_
  refine TF.u (v := (.int .i64 _)) rfl rfl (pr_move rfl) ?_
  refine TF.u (v := (.int .u64 _)) rfl rfl (pr_move rfl) ?_
  refine TF.call (args := [(.int .i64 _), (.int .u64 _)]) Try.fn61 rfl rfl (wantF_none rfl) rfl (fits_ok _ _ _ (by omega) (by omega) (by omega)) ?_
  rintro e_ w ⟨rfl, hb1⟩
  refine ⟨_, rfl, ?_⟩
  replace H := H.below hb1
  refine TF.u (v := (.bool _)) rfl rfl (pr_not rfl) ?_
  refine TF.nil (nx_then ?_)
  refine cw_cond _ rfl rfl (fun hq3 => ?_) (fun hq3 => ?_)
  ·
    have hp3 := (nT hq3)
    refine cw_seq ?_
    -- region 2 pack.go:21
    refine cw_region (clf [.U, .U]) [0, 1] rfl (by kernel_rfl) (by decide) ?_
    refine TF.u (v := (.slice _ _ _)) rfl rfl (pr_assign rfl) ?_
    refine TF.u (v := (.int .i64 _)) rfl rfl (pr_assign rfl) ?_
    refine TF.nil (nx_then ?_)
    refine cw_ret (rt_then (fin2 (v := (.slice _ _ _)) (v' := (.int .i64 _)) Try.results56 rfl rfl rfl rfl ?_))
    rw [putS_no (nT hq3)]
    exact ⟨_, _, _, rfl, NewS.nilB H.base _ _⟩
  ·
    have hp3 := (nF hq3)
    refine cw_skip (nx_then ?_)
    refine cw_seq ?_
    -- region 3 pack.go:23
    refine cw_region (clf [.U, .U, .X, .U]) [0, 1, 2, 3] rfl (by kernel_rfl) (by decide) ?_
    have hfit := (nF hq3)
    obtain ⟨hw3, hw4, hw5⟩ := fits_bounds hfit
    obtain ⟨wd, rfl⟩ := Int.eq_ofNat_of_zero_le (show 0 ≤ width by omega)
    simp only [Int.toNat_natCast] at hw5
    refine TF.u (v := (.slice _ _ _)) rfl rfl (pr_move rfl) ?_
    refine TF.u (v := (.int .i64 _)) rfl rfl (pr_move rfl) ?_
    refine TF.call (args := [(.slice _ _ _), (.int .i64 _)]) Try.fn62 rfl rfl (wantF_none rfl) rfl ((behind_ok _ _ _ _ _ _ (hb.below H.base) (by omega) (by omega))) ?_
    rintro e_ w ⟨A4, c4, rfl, hn4, hc4⟩
    refine ⟨_, rfl, ?_⟩
    replace H := H.newS hn4
    refine TF.u (v := (.slice _ _ _)) rfl rfl (pr_assign rfl) ?_
    refine TF.nil (nx_then ?_)
    refine cw_seq ?_
    refine cw_seq ?_
    -- region 4 pack.go:24
    refine cw_region (clf [.U, .U]) [0, 1] rfl (by kernel_rfl) (by decide) ?_
    refine TF.u (v := (.int .i64 _)) rfl rfl (pr_move rfl) ?_
    refine TF.u (v := (.int .i64 _)) rfl rfl (pr_move rfl) ?_
    refine TF.nil (nx_then ?_)
    refine cw_block ?_
    refine cw_loop (fun m_q f_q w => ∃ (g_ : Nat → Value) (i : Nat) (A1 : Option Addr) (c1 : Nat), m_q = wd - i ∧ f_q = (upd (upd (upd (upd (upd g_ 2 (.int .u64 (v : Int))) 17 (.int .i64 (wd : Int))) 18 (.int .i64 (i : Int))) 8 (.slice A1 (n + i) c1)) 1 (.int .i64 (wd : Int))) ∧ Sat [] w0 w [cOwnB 5 A1 (n + i) c1 (bs ++ be i (v / 256 ^ (wd - i)))] ∧ (i ≤ wd)) (wd - 0) ?_ ?_
    ·
      exact ⟨_, 0, _, _, rfl, (cutS (cutS (cutS (cutS (cutS rfl rfl) rfl) rfl) rfl) rfl), (by simpa [be] using H), Nat.zero_le _⟩
    ·
      clear H
      rintro m_ f_ w ⟨g_, i, A1, c1, rfl, rfl, H, hi⟩
      refine cw_seq ?_
      -- region 5 pack.go:24
      refine cw_region (clf [.U]) [0] rfl (by kernel_rfl) (by decide) ?_
      refine TF.u (v := (.bool _)) rfl rfl (pr_lss rfl rfl) ?_
      refine TF.nil (nx_then ?_)
      refine cw_seq ?_
      refine cw_cond _ rfl rfl (fun hq7 => ?_) (fun hq7 => ?_)
      ·
        have hp7 := dT hq7
        refine cw_skip (nx_then ?_)
        refine cw_seq ?_
        refine cw_block ?_
        refine cw_seq ?_
        -- region 6 pack.go:24
        refine cw_region (clf [.U, .U]) [0, 1] rfl (by kernel_rfl) (by decide) ?_
        refine TF.u (v := (.int .i64 _)) rfl rfl (pr_move rfl) ?_
        refine TF.u (v := (.int .i64 _)) rfl rfl (pr_assign rfl) ?_
        refine TF.nil (nx_then ?_)
        -- region 7 pack.go:25
        refine cw_region (clf [.U, .U, .U, .U, .U, .U, .U, .U, .U, .X, .X, .U]) [0, 1, 2, 3, 4, 5, 6, 7, 8, 9, 10, 11] rfl (by kernel_rfl) (by decide) ?_
        have hlt : i < wd := by omega
        refine TF.u (v := (.slice _ _ _)) rfl rfl (pr_move rfl) ?_
        refine TF.u (v := (.int .u64 _)) rfl rfl (pr_move rfl) ?_
        refine TF.u (v := (.int .i64 _)) rfl rfl (pr_move rfl) ?_
        refine TF.u (v := (.int .i64 _)) rfl rfl (pr_sub rfl rfl (IntWalk.i64_in _ (by omega))) ?_
        refine TF.u (v := (.int .i64 _)) rfl rfl (pr_move rfl) ?_
        refine TF.u (v := (.int .i64 _)) rfl rfl (pr_sub rfl rfl (IntWalk.i64_in _ (by omega))) ?_
        refine TF.u (v := (.int .i64 _)) rfl rfl (pr_mul rfl rfl (IntWalk.i64_in _ (by omega))) ?_
        refine TF.u (v := (.int .u64 _)) rfl rfl (pr_shr rfl rfl (by omega) rfl) ?_
        refine TF.u (v := (.int .u8 _)) rfl rfl (pr_conv Try.underlying22 Try.underlying5 rfl (put_byte hlt (by omega))) ?_
        refine TF.lit (vs := [(.int .u8 _)]) H rfl (Cx.xx rfl) (wantF_none rfl) Try.underlying34 (Try.ty5) rfl rfl rfl rfl rfl rfl ?_
        clear H
        intro bk8 w hltbk8 hb9 H
        replace H : Sat _ _ _ (cBlk _ _ (u8s [_]) :: _) := H
        replace H : Sat _ _ _ [_, _] := H
        refine TF.append (q := 1) (v := (.slice _ _ _)) H rfl rfl rfl (wantF_none rfl) Try.underlying34 (Try.ty5) rfl Try.underlying34 (.inr ⟨_, rfl⟩) rfl rfl (Src.rdB ((H.blk (k := 0) rfl).own 1 rfl (by decide)).rd) (by unfold maxLen; first | omega | (simp only [List.length_append, List.length_cons, List.length_nil]; omega)) (by first | omega | (simp only [List.length_append, List.length_cons, List.length_nil]; omega)) ?_
        clear H
        intro Aout_10 cout_10 w ho10 H
        replace H : Sat _ _ _ [_, _] := H
        rw [← u8s_app, List.append_assoc, be_step hlt] at H
        refine TF.u (v := (.slice _ _ _)) rfl rfl (pr_assign rfl) ?_
        refine TF.nil (nx_block (nx_then ?_))
        -- region 8 pack.go:24
        refine cw_region (clf [.U, .U]) [0, 1] rfl (by kernel_rfl) (by decide) ?_
        refine TF.u (v := (.int .i64 _)) rfl rfl (pr_add rfl rfl (IntWalk.i64_in _ (by omega))) ?_
        refine TF.u (v := (.int .i64 _)) rfl rfl (pr_move rfl) ?_
        refine TF.nil (nx_loop (m' := wd - (i + 1)) (by omega) ?_)
        exact ⟨_, i + 1, _, _, rfl, (cutS (cutS (cutS (cutS (cutS rfl rfl) rfl) rfl) rfl) rfl), (H.del 0), by omega⟩
      ·
        have hp7 := dF hq7
        refine cw_exit (ex_then (ex_then (ex_here (nx_then ?_))))
        refine cw_seq ?_
        -- region 9 pack.go:27
        refine cw_region (clf [.U, .U, .U]) [0, 1, 2] rfl (by kernel_rfl) (by decide) ?_
        refine TF.u (v := (.slice _ _ _)) rfl rfl (pr_move rfl) ?_
        refine TF.u (v := (.slice _ _ _)) rfl rfl (pr_assign rfl) ?_
        refine TF.u (v := (.int .i64 _)) rfl rfl (pr_assign rfl) ?_
        refine TF.nil (nx_then ?_)
        refine cw_ret (fin2 (v := (.slice _ _ _)) (v' := (.int .i64 _)) Try.results56 rfl rfl rfl rfl ?_)
        obtain rfl : i = wd := by omega
        rw [putS_yes hfit]
        simp only [Nat.sub_self, Nat.pow_zero, Nat.div_one] at H
        exact ⟨_, _, _, rfl, H.toNew (k := 0) rfl⟩

theorem take_ok (A : Option Addr) (n c : Nat) (bs : List UInt8) (at_ width : Int) (w0 : World) (hb : RdB w0 A n c bs) (hn : n ≤ 281474976710656) (ha : -9223372036854775808 ≤ at_) (ha2 : at_ ≤ 9223372036854775807) (hw : -9223372036854775808 ≤ width) (hw2 : width ≤ 9223372036854775807) :
    Calls Try.prog 45 #[.slice A n c, .int .i64 at_, .int .i64 width] w0 fun e w => e = .returned (.tuple #[.int .u64 ((takeS bs at_ width).1 : Int), .int .i64 (takeS bs at_ width).2]) ∧ Below w0.heap.size w0 w := by
  refine enter (args := [.slice A n c, .int .i64 at_, .int .i64 width]) Try.func45 rfl Try.ntmps45 rfl ?_
  have H := Sat.start w0
  refine cw_seq ?_
  -- region 0 pack.go:31
  refine cw_region (clf [.U, .U]) [0, 1] rfl (by kernel_rfl) (by decide) ?_
  refine TF.u (v := (.int .u64 _)) rfl rfl (pr_assign rfl) ?_
  refine TF.u (v := (.int .i64 _)) rfl rfl (pr_assign rfl) ?_
  refine TF.nil (nx_then ?_)
  refine cw_seq ?_
  refine cw_block ?_
  refine cw_seq ?_
  -- region 1 pack.go:33
  refine cw_region (clf [.U, .U, .U, .U, .U, .U, .U, .U, .U, .U, .U]) [0, 1, 2, 3, 4, 5, 6, 7, 8, 9, 10] rfl (by kernel_rfl) (by decide) ?_
  refine TF.u (v := (.int .i64 _)) rfl rfl (pr_move rfl) ?_
  refine TF.u (v := (.bool _)) rfl rfl (pr_lss rfl rfl) ?_
  refine TF.u (v := (.bool _)) rfl rfl (pr_move rfl) ?_
  refine TF.split (dj := 14) rfl (fun hq2 => ?_) (fun hq2 => ?_)
  ·
    have hp2 := dT hq2
    refine TF.skip rfl (wantF_no rfl rfl rfl hq2) ?_
    refine TF.skip rfl (wantF_no rfl rfl rfl hq2) ?_
    refine TF.u (v := (.bool _)) rfl rfl (pr_pickT rfl hq2 rfl) ?_
    refine TF.u (v := (.bool _)) rfl rfl (pr_move rfl) ?_
    refine TF.skip rfl (wantF_no rfl rfl rfl rfl) ?_
    refine TF.skip rfl (wantF_no rfl rfl rfl rfl) ?_
    refine TF.u (v := (.bool _)) rfl rfl (pr_pickT rfl rfl rfl) ?_
    refine TF.u (v := (.bool _)) rfl rfl (pr_assign rfl) ?_
    refine TF.nil (nx_then ?_)
    refine cw_condT (t := _) rfl rfl rfl ?_
    refine cw_seq ?_
    -- region 2 pack.go:34
    refine cw_region (clf [.U, .U]) [0, 1] rfl (by kernel_rfl) (by decide) ?_
    refine TF.u (v := (.int .u64 _)) rfl rfl (pr_assign rfl) ?_
    refine TF.u (v := (.int .i64 _)) rfl rfl (pr_assign rfl) ?_
    refine TF.nil (nx_then ?_)
    refine cw_ret (rt_block (rt_then (fin2 (v := (.int .u64 _)) (v' := (.int .i64 _)) Try.results45 rfl rfl rfl rfl ?_)))
    exact ⟨by rw [takeS_arg (by omega)]; rfl, H.base⟩
  ·
    have hp2 := dF hq2
    refine TF.ug (v := (.int .i64 _)) rfl rfl (wantF_yes rfl rfl rfl hq2) (pr_move rfl) ?_
    refine TF.ug (v := (.bool _)) rfl rfl (wantF_yes rfl rfl rfl hq2) (pr_gtr rfl rfl) ?_
    refine TF.u (v := (.bool _)) rfl rfl (pr_pickF rfl hq2 rfl) ?_
    refine TF.u (v := (.bool _)) rfl rfl (pr_move rfl) ?_
    refine TF.split (dj := 18) rfl (fun hq4 => ?_) (fun hq4 => ?_)
    ·
      have hp4 := dT hq4
      refine TF.skip rfl (wantF_no rfl rfl rfl hq4) ?_
      refine TF.skip rfl (wantF_no rfl rfl rfl hq4) ?_
      refine TF.u (v := (.bool _)) rfl rfl (pr_pickT rfl hq4 rfl) ?_
      refine TF.u (v := (.bool _)) rfl rfl (pr_assign rfl) ?_
      refine TF.nil (nx_then ?_)
      refine cw_condT (t := _) rfl rfl rfl ?_
      refine cw_seq ?_
      -- region 2 pack.go:34
      refine cw_region (clf [.U, .U]) [0, 1] rfl (by kernel_rfl) (by decide) ?_
      refine TF.u (v := (.int .u64 _)) rfl rfl (pr_assign rfl) ?_
      refine TF.u (v := (.int .i64 _)) rfl rfl (pr_assign rfl) ?_
      refine TF.nil (nx_then ?_)
      refine cw_ret (rt_block (rt_then (fin2 (v := (.int .u64 _)) (v' := (.int .i64 _)) Try.results45 rfl rfl rfl rfl ?_)))
      exact ⟨by rw [takeS_arg (by omega)]; rfl, H.base⟩
    ·
      have hp4 := dF hq4
      refine TF.ug (v := (.int .i64 _)) rfl rfl (wantF_yes rfl rfl rfl hq4) (pr_move rfl) ?_
      refine TF.ug (v := (.bool _)) rfl rfl (wantF_yes rfl rfl rfl hq4) (pr_lss rfl rfl) ?_
      refine TF.u (v := (.bool _)) rfl rfl (pr_pickF rfl hq4 rfl) ?_
      refine TF.u (v := (.bool _)) rfl rfl (pr_assign rfl) ?_
      refine TF.nil (nx_then ?_)
      refine cw_cond _ rfl rfl (fun hq6 => ?_) (fun hq6 => ?_)
      ·
        have hp6 := dT hq6
        refine cw_seq ?_
        -- region 2 pack.go:34
        refine cw_region (clf [.U, .U]) [0, 1] rfl (by kernel_rfl) (by decide) ?_
        refine TF.u (v := (.int .u64 _)) rfl rfl (pr_assign rfl) ?_
        refine TF.u (v := (.int .i64 _)) rfl rfl (pr_assign rfl) ?_
        refine TF.nil (nx_then ?_)
        refine cw_ret (rt_block (rt_then (fin2 (v := (.int .u64 _)) (v' := (.int .i64 _)) Try.results45 rfl rfl rfl rfl ?_)))
        exact ⟨by rw [takeS_arg (by omega)]; rfl, H.base⟩
      ·
        have hp6 := dF hq6
        refine cw_seq ?_
        -- region 3 pack.go:35
        refine cw_region (clf [.U, .U, .U, .U, .U, .U, .U, .U, .U, .U, .U, .U, .U]) [0, 1, 2, 3, 4, 5, 6, 7, 8, 9, 10, 11, 12] rfl (by kernel_rfl) (by decide) ?_
        refine TF.u (v := (.int .i64 _)) rfl rfl (pr_move rfl) ?_
        refine TF.u (v := (.slice _ _ _)) rfl rfl (pr_move rfl) ?_
        refine TF.u (v := (.int .i64 _)) rfl rfl (pr_len rfl Try.underlying34 rfl) ?_
        refine TF.u (v := (.bool _)) rfl rfl (pr_gtr rfl rfl) ?_
        refine TF.u (v := (.bool _)) rfl rfl (pr_move rfl) ?_
        refine TF.split (dj := 27) rfl (fun hq8 => ?_) (fun hq8 => ?_)
        ·
          have hp8 := dT hq8
          refine TF.skip rfl (wantF_no rfl rfl rfl hq8) ?_
          refine TF.skip rfl (wantF_no rfl rfl rfl hq8) ?_
          refine TF.skip rfl (wantF_no rfl rfl rfl hq8) ?_
          refine TF.skip rfl (wantF_no rfl rfl rfl hq8) ?_
          refine TF.skip rfl (wantF_no rfl rfl rfl hq8) ?_
          refine TF.skip rfl (wantF_no rfl rfl rfl hq8) ?_
          refine TF.u (v := (.bool _)) rfl rfl (pr_pickT rfl hq8 rfl) ?_
          refine TF.u (v := (.bool _)) rfl rfl (pr_assign rfl) ?_
          refine TF.nil (nx_then ?_)
          refine cw_condT (t := _) rfl rfl rfl ?_
          refine cw_seq ?_
          -- region 4 pack.go:36
          refine cw_region (clf [.U, .U]) [0, 1] rfl (by kernel_rfl) (by decide) ?_
          refine TF.u (v := (.int .u64 _)) rfl rfl (pr_assign rfl) ?_
          refine TF.u (v := (.int .i64 _)) rfl rfl (pr_assign rfl) ?_
          refine TF.nil (nx_then ?_)
          refine cw_ret (rt_block (rt_then (fin2 (v := (.int .u64 _)) (v' := (.int .i64 _)) Try.results45 rfl rfl rfl rfl ?_)))
          exact ⟨by rw [takeS_short (by omega) (by rw [hb.length]; omega)]; rfl, H.base⟩
        ·
          have hp8 := dF hq8
          refine TF.ug (v := (.slice _ _ _)) rfl rfl (wantF_yes rfl rfl rfl hq8) (pr_move rfl) ?_
          refine TF.ug (v := (.int .i64 _)) rfl rfl (wantF_yes rfl rfl rfl hq8) (pr_len rfl Try.underlying34 rfl) ?_
          refine TF.ug (v := (.int .i64 _)) rfl rfl (wantF_yes rfl rfl rfl hq8) (pr_move rfl) ?_
          refine TF.ug (v := (.int .i64 _)) rfl rfl (wantF_yes rfl rfl rfl hq8) (pr_sub rfl rfl (IntWalk.i64_in _ (by omega))) ?_
          refine TF.ug (v := (.int .i64 _)) rfl rfl (wantF_yes rfl rfl rfl hq8) (pr_move rfl) ?_
          refine TF.ug (v := (.bool _)) rfl rfl (wantF_yes rfl rfl rfl hq8) (pr_lss rfl rfl) ?_
          refine TF.u (v := (.bool _)) rfl rfl (pr_pickF rfl hq8 rfl) ?_
          refine TF.u (v := (.bool _)) rfl rfl (pr_assign rfl) ?_
          refine TF.nil (nx_then ?_)
          refine cw_cond _ rfl rfl (fun hq10 => ?_) (fun hq10 => ?_)
          ·
            have hp10 := dT hq10
            refine cw_seq ?_
            -- region 4 pack.go:36
            refine cw_region (clf [.U, .U]) [0, 1] rfl (by kernel_rfl) (by decide) ?_
            refine TF.u (v := (.int .u64 _)) rfl rfl (pr_assign rfl) ?_
            refine TF.u (v := (.int .i64 _)) rfl rfl (pr_assign rfl) ?_
            refine TF.nil (nx_then ?_)
            refine cw_ret (rt_block (rt_then (fin2 (v := (.int .u64 _)) (v' := (.int .i64 _)) Try.results45 rfl rfl rfl rfl ?_)))
            exact ⟨by rw [takeS_short (by omega) (by rw [hb.length]; omega)]; rfl, H.base⟩
          ·
            have hp10 := dF hq10
            refine cw_skip (nx_block (nx_then ?_))
            refine cw_seq ?_
            -- region 5 pack.go:38
            refine cw_region (clf [.U]) [0] rfl (by kernel_rfl) (by decide) ?_
            obtain ⟨a, rfl⟩ := Int.eq_ofNat_of_zero_le (show 0 ≤ at_ by omega)
            obtain ⟨wd, rfl⟩ := Int.eq_ofNat_of_zero_le (show 0 ≤ width by omega)
            have hcut := RdB.cut (lo := a) (hi := a + wd) (m := c) (n' := wd) (c' := c - a) hb (by omega) (by omega) (by have := hb.cap; omega) (by omega) (by omega) rfl
            have hcap := hb.cap
            refine TF.u (v := (.int .u64 _)) rfl rfl (pr_assign rfl) ?_
            refine TF.nil (nx_then ?_)
            refine cw_seq ?_
            refine cw_seq ?_
            -- region 6 pack.go:39
            refine cw_region (clf [.U, .U, .U, .U, .U, .U, .U, .U]) [0, 1, 2, 3, 4, 5, 6, 7] rfl (by kernel_rfl) (by decide) ?_
            refine TF.u (v := (.slice _ _ _)) rfl rfl (pr_move rfl) ?_
            refine TF.u (v := (.int .i64 _)) rfl rfl (pr_move rfl) ?_
            refine TF.u (v := (.int .i64 _)) rfl rfl (pr_move rfl) ?_
            refine TF.u (v := (.int .i64 _)) rfl rfl (pr_move rfl) ?_
            refine TF.u (v := (.int .i64 _)) rfl rfl (pr_add rfl rfl (IntWalk.i64_in _ (by omega))) ?_
            refine TF.u (v := (.slice _ _ _)) rfl rfl (pr_cut (l := a) (h := a + wd) (mm := c) Try.underlying34 (Try.ty5.s) rfl (.inr ⟨_, _, rfl, rfl⟩) (.inr ⟨_, _, rfl, (by rfl)⟩) (.inl ⟨rfl, rfl⟩) (by omega) (by omega) (by omega) (n' := wd) (c' := c - a) (by omega) (by omega)) ?_
            skip
            refine TF.u (v := (.int .i64 _)) rfl rfl (pr_len rfl Try.underlying34 rfl) ?_
            refine TF.u (v := (.int .i64 _)) rfl rfl (pr_move rfl) ?_
            refine TF.nil (nx_then ?_)
            refine cw_block ?_
            refine cw_loop (fun m_q f_q w => ∃ (g_ : Nat → Value) (i : Nat), m_q = wd - i ∧ f_q = (upd (upd (upd (upd g_ 40 (.slice (cutA A c a 1) wd (c - a))) 41 (.int .i64 (wd : Int))) 42 (.int .i64 (i : Int))) 8 (.int .u64 ((unbe (((bs.drop a).take wd).take i) : Nat) : Int))) ∧ Sat [] w0 w [] ∧ (i ≤ wd)) (wd - 0) ?_ ?_
            ·
              exact ⟨_, 0, rfl, (cutS (cutS (cutS (cutS rfl rfl) rfl) rfl) rfl), H, Nat.zero_le _⟩
            ·
              clear H
              rintro m_ f_ w ⟨g_, i, rfl, rfl, H, hi⟩
              refine cw_seq ?_
              -- region 7 pack.go:39
              refine cw_region (clf [.U]) [0] rfl (by kernel_rfl) (by decide) ?_
              refine TF.u (v := (.bool _)) rfl rfl (pr_lss rfl rfl) ?_
              refine TF.nil (nx_then ?_)
              refine cw_seq ?_
              refine cw_cond _ rfl rfl (fun hq12 => ?_) (fun hq12 => ?_)
              ·
                have hp12 := dT hq12
                refine cw_skip (nx_then ?_)
                refine cw_seq ?_
                refine cw_block ?_
                refine cw_seq ?_
                -- region 8 pack.go:39
                refine cw_region (clf [.U, .X, .U]) [0, 1, 2] rfl (by kernel_rfl) (by decide) ?_
                refine TF.idxB (hcut.below H.base) rfl rfl (wantF_none rfl) Try.underlying34 (Try.ty5.s) rfl rfl (by omega) (by omega) ?_
                intro p13 hc14
                refine TF.load (v := (.int .u8 _)) rfl rfl (wantF_none rfl) Try.underlying5 rfl rfl hc14 ?_
                refine TF.u (v := (.int .u8 _)) rfl rfl (pr_assign rfl) ?_
                refine TF.nil (nx_then ?_)
                -- region 9 pack.go:40
                refine cw_region (clf [.U, .U, .U, .U, .U, .U]) [0, 1, 2, 3, 4, 5] rfl (by kernel_rfl) (by decide) ?_
                have hul := unbe_lt (((bs.drop a).take wd).take i)
                rw [List.length_take, hcut.length, Nat.min_eq_left (by omega)] at hul
                have hp7 : (256 : Nat) ^ i ≤ 256 ^ 7 := Nat.pow_le_pow_right (by omega) (by omega)
                have hby := (((bs.drop a).take wd).getD (i : Int).toNat 0).toNat_lt
                refine TF.u (v := (.int .u64 _)) rfl rfl (pr_move rfl) ?_
                refine TF.u (v := (.int .u64 _)) rfl rfl (pr_shl rfl rfl (by omega) (take_shl (by omega))) ?_
                refine TF.u (v := (.int .u8 _)) rfl rfl (pr_move rfl) ?_
                refine TF.u (v := (.int .u64 _)) rfl rfl (pr_conv Try.underlying5 Try.underlying22 rfl (IntWalk.u64_in _ (by omega))) ?_
                refine TF.u (v := (.int .u64 _)) rfl rfl (pr_or rfl rfl (take_or (by omega) (by omega))) ?_
                refine TF.u (v := (.int .u64 _)) rfl rfl (pr_assign rfl) ?_
                refine TF.nil (nx_block (nx_then ?_))
                -- region 10 pack.go:39
                refine cw_region (clf [.U, .U]) [0, 1] rfl (by kernel_rfl) (by decide) ?_
                refine TF.u (v := (.int .i64 _)) rfl rfl (pr_add rfl rfl (IntWalk.i64_in _ (by omega))) ?_
                refine TF.u (v := (.int .i64 _)) rfl rfl (pr_move rfl) ?_
                have htk := take_succ_getD ((bs.drop a).take wd) i (by rw [hcut.length]; omega)
                refine TF.nil (nx_loop (m' := wd - (i + 1)) (by omega) ?_)
                exact ⟨_, i + 1, rfl, (cutS (cutS (cutS (cutS rfl rfl) rfl) rfl) (by rw [htk, unbe_snoc]; rfl)), H, by omega⟩
              ·
                have hp12 := dF hq12
                refine cw_exit (ex_then (ex_then (ex_here (nx_then ?_))))
                refine cw_seq ?_
                -- region 11 pack.go:42
                refine cw_region (clf [.U, .U, .U]) [0, 1, 2] rfl (by kernel_rfl) (by decide) ?_
                refine TF.u (v := (.int .u64 _)) rfl rfl (pr_move rfl) ?_
                refine TF.u (v := (.int .u64 _)) rfl rfl (pr_assign rfl) ?_
                refine TF.u (v := (.int .i64 _)) rfl rfl (pr_assign rfl) ?_
                refine TF.nil (nx_then ?_)
                refine cw_ret (fin2 (v := (.int .u64 _)) (v' := (.int .i64 _)) Try.results45 rfl rfl rfl rfl ?_)
                obtain rfl : i = wd := by omega
                rw [List.take_of_length_le (by rw [hcut.length]; omega)]
                exact ⟨by rw [takeS_yes (by omega) (by omega) (by rw [hb.length]; omega) (by rw [hb.length]; omega) trivial], H.base⟩

theorem number_ok (wd n : Nat) (w0 : World) (hw : wd ≤ 1000) (hn : n < 18446744073709551616) :
    Calls Try.prog 46 #[.int .i64 (wd : Int), .int .u64 (n : Int)] w0 fun e w => e = .returned (T (be wd n)) ∧ Below w0.heap.size w0 w := by
  refine enter (args := [.int .i64 (wd : Int), .int .u64 (n : Int)]) Try.func46 rfl Try.ntmps46 rfl ?_
  have H := Sat.start w0
  refine cw_seq ?_
  -- region 0 ref.go:16
  refine cw_region (clf [.U]) [0] rfl (by kernel_rfl) (by decide) ?_
  refine TF.u (v := (T _)) rfl rfl (pr_assign rfl) ?_
  refine TF.nil (nx_then ?_)
  refine cw_seq ?_
  -- region 1 ref.go:17
  refine cw_region (clf [.U]) [0] rfl (by kernel_rfl) (by decide) ?_
  refine TF.u (v := (T _)) rfl rfl (pr_assign rfl) ?_
  refine TF.nil (nx_then ?_)
  refine cw_seq ?_
  refine cw_seq ?_
  -- region 2 ref.go:18
  refine cw_region (clf [.U]) [0] rfl (by kernel_rfl) (by decide) ?_
  refine TF.u (v := (.int .i64 _)) rfl rfl (pr_assign rfl) ?_
  refine TF.nil (nx_then ?_)
  refine cw_block ?_
  refine cw_loop (fun m_q f_q w => ∃ (g_ : Nat → Value) (i : Nat), m_q = wd - i ∧ f_q = (upd (upd (upd (upd g_ 0 (.int .i64 (wd : Int))) 1 (.int .u64 ((n / 256 ^ i : Nat) : Int))) 6 (.int .i64 (i : Int))) 5 (T (be i n))) ∧ Sat [] w0 w [] ∧ (i ≤ wd)) (wd - 0) ?_ ?_
  ·
    exact ⟨_, 0, rfl, (cutS (cutS (cutS (cutS rfl rfl) (by rw [Nat.pow_zero, Nat.div_one]; rfl)) rfl) rfl), H, Nat.zero_le _⟩
  ·
    clear H
    rintro m_ f_ w ⟨g_, i, rfl, rfl, H, hi⟩
    refine cw_seq ?_
    refine cw_seq ?_
    -- region 3 ref.go:18
    refine cw_region (clf [.U, .U, .U]) [0, 1, 2] rfl (by kernel_rfl) (by decide) ?_
    refine TF.u (v := (.int .i64 _)) rfl rfl (pr_move rfl) ?_
    refine TF.u (v := (.int .i64 _)) rfl rfl (pr_move rfl) ?_
    refine TF.u (v := (.bool _)) rfl rfl (pr_lss rfl rfl) ?_
    refine TF.nil (nx_then ?_)
    refine cw_cond _ rfl rfl (fun hq2 => ?_) (fun hq2 => ?_)
    ·
      have hp2 := dT hq2
      refine cw_skip (nx_then ?_)
      refine cw_seq ?_
      refine cw_block ?_
      refine cw_seq ?_
      -- region 5 ref.go:19
      refine cw_region (clf [.U, .U, .U, .X, .X, .U, .U, .U]) [0, 1, 2, 3, 4, 5, 6, 7] rfl (by kernel_rfl) (by decide) ?_
      refine TF.u (v := (.int .u64 _)) rfl rfl (pr_move rfl) ?_
      refine TF.u (v := (.int .u64 _)) rfl rfl (pr_rem rfl rfl (by omega) rem256) ?_
      refine TF.u (v := (.int .u8 _)) rfl rfl (pr_conv Try.underlying22 Try.underlying5 rfl conv_u8) ?_
      refine TF.lit (vs := [(.int .u8 _)]) H rfl (Cx.xx rfl) (wantF_none rfl) Try.underlying34 (Try.ty5) rfl rfl rfl rfl rfl rfl ?_
      clear H
      intro bk3 w hltbk3 hb4 H
      replace H : Sat _ _ _ (cBlk _ _ (u8s [_]) :: _) := H
      replace H : Sat _ _ _ [_] := H
      refine TF.tostr ((H.blk (k := 0) rfl).own 1 rfl (by decide)).rd rfl rfl (wantF_none rfl) Try.underlying34 Try.underlying5 Try.underlying9 rfl ?_
      refine TF.u (v := (T _)) rfl rfl (pr_move rfl) ?_
      refine TF.u (v := (T _)) rfl rfl (pr_sadd rfl rfl (by rw [be_len]; simp; omega)) ?_
      refine TF.u (v := (T _)) rfl rfl (pr_assign rfl) ?_
      refine TF.nil (nx_then ?_)
      -- region 6 ref.go:20
      refine cw_region (clf [.U, .U, .U]) [0, 1, 2] rfl (by kernel_rfl) (by decide) ?_
      refine TF.u (v := (.int .u64 _)) rfl rfl (pr_move rfl) ?_
      refine TF.u (v := (.int .u64 _)) rfl rfl (pr_quo rfl rfl (by omega) (quo256 (by have := Nat.div_le_self n (256 ^ i); omega))) ?_
      refine TF.u (v := (.int .u64 _)) rfl rfl (pr_assign rfl) ?_
      refine TF.nil (nx_block (nx_then ?_))
      -- region 4 ref.go:18
      refine cw_region (clf [.U, .U, .U]) [0, 1, 2] rfl (by kernel_rfl) (by decide) ?_
      refine TF.u (v := (.int .i64 _)) rfl rfl (pr_move rfl) ?_
      refine TF.u (v := (.int .i64 _)) rfl rfl (pr_add rfl rfl (IntWalk.i64_in _ (by omega))) ?_
      refine TF.u (v := (.int .i64 _)) rfl rfl (pr_assign rfl) ?_
      refine TF.nil (nx_loop (m' := wd - (i + 1)) (by omega) ?_)
      exact ⟨_, i + 1, rfl, (cutS (cutS (cutS (cutS rfl rfl) (by rw [Nat.pow_succ, ← Nat.div_div_eq_div_mul]; rfl)) rfl) (by rw [be_low]; rfl)), (H.del 0), by omega⟩
    ·
      have hp2 := dF hq2
      refine cw_exit (ex_then (ex_then (ex_here (nx_then ?_))))
      refine cw_seq ?_
      -- region 7 ref.go:22
      refine cw_region (clf [.U, .U]) [0, 1] rfl (by kernel_rfl) (by decide) ?_
      refine TF.u (v := (T _)) rfl rfl (pr_move rfl) ?_
      refine TF.u (v := (T _)) rfl rfl (pr_assign rfl) ?_
      refine TF.nil (nx_then ?_)
      refine cw_ret (fin1 (v := (T _)) Try.results46 rfl rfl ?_)
      obtain rfl : i = wd := by omega
      exact ⟨rfl, H.base⟩

theorem rtake_ok (bs : List UInt8) (at_ width : Int) (w0 : World) (hn : bs.length ≤ 281474976710656) (ha : -9223372036854775808 ≤ at_) (ha2 : at_ ≤ 9223372036854775807) (hw : -9223372036854775808 ≤ width) (hw2 : width ≤ 9223372036854775807) :
    Calls Try.prog 58 #[T bs, .int .i64 at_, .int .i64 width] w0 fun e w => e = .returned (.tuple #[.int .u64 ((takeS bs at_ width).1 : Int), .int .i64 (takeS bs at_ width).2]) ∧ Below w0.heap.size w0 w := by
  refine enter (args := [T bs, .int .i64 at_, .int .i64 width]) Try.func58 rfl Try.ntmps58 rfl ?_
  have H := Sat.start w0
  refine cw_seq ?_
  -- region 0 ref.go:34
  refine cw_region (clf [.U, .U]) [0, 1] rfl (by kernel_rfl) (by decide) ?_
  refine TF.u (v := (.int .u64 _)) rfl rfl (pr_assign rfl) ?_
  refine TF.u (v := (.int .i64 _)) rfl rfl (pr_assign rfl) ?_
  refine TF.nil (nx_then ?_)
  refine cw_seq ?_
  refine cw_seq ?_
  -- region 1 ref.go:35
  refine cw_region (clf [.U, .U, .U, .U, .U, .U, .U, .U, .U, .U]) [0, 1, 2, 3, 4, 5, 6, 7, 8, 9] rfl (by kernel_rfl) (by decide) ?_
  refine TF.u (v := (.int .i64 _)) rfl rfl (pr_move rfl) ?_
  refine TF.u (v := (.bool _)) rfl rfl (pr_lss rfl rfl) ?_
  refine TF.u (v := (.bool _)) rfl rfl (pr_move rfl) ?_
  refine TF.split (dj := 12) rfl (fun hq2 => ?_) (fun hq2 => ?_)
  ·
    have hp2 := dT hq2
    refine TF.skip rfl (wantF_no rfl rfl rfl hq2) ?_
    refine TF.skip rfl (wantF_no rfl rfl rfl hq2) ?_
    refine TF.u (v := (.bool _)) rfl rfl (pr_pickT rfl hq2 rfl) ?_
    refine TF.u (v := (.bool _)) rfl rfl (pr_move rfl) ?_
    refine TF.skip rfl (wantF_no rfl rfl rfl rfl) ?_
    refine TF.skip rfl (wantF_no rfl rfl rfl rfl) ?_
    refine TF.u (v := (.bool _)) rfl rfl (pr_pickT rfl rfl rfl) ?_
    refine TF.nil (nx_then ?_)
    refine cw_condT (t := _) rfl rfl rfl ?_
    refine cw_seq ?_
    -- region 2 ref.go:36
    refine cw_region (clf [.U, .U]) [0, 1] rfl (by kernel_rfl) (by decide) ?_
    refine TF.u (v := (.int .u64 _)) rfl rfl (pr_assign rfl) ?_
    refine TF.u (v := (.int .i64 _)) rfl rfl (pr_assign rfl) ?_
    refine TF.nil (nx_then ?_)
    refine cw_ret (rt_then (fin2 (v := (.int .u64 _)) (v' := (.int .i64 _)) Try.results58 rfl rfl rfl rfl ?_))
    exact ⟨by rw [takeS_arg (by omega)]; rfl, H.base⟩
  ·
    have hp2 := dF hq2
    refine TF.ug (v := (.int .i64 _)) rfl rfl (wantF_yes rfl rfl rfl hq2) (pr_move rfl) ?_
    refine TF.ug (v := (.bool _)) rfl rfl (wantF_yes rfl rfl rfl hq2) (pr_gtr rfl rfl) ?_
    refine TF.u (v := (.bool _)) rfl rfl (pr_pickF rfl hq2 rfl) ?_
    refine TF.u (v := (.bool _)) rfl rfl (pr_move rfl) ?_
    refine TF.split (dj := 16) rfl (fun hq4 => ?_) (fun hq4 => ?_)
    ·
      have hp4 := dT hq4
      refine TF.skip rfl (wantF_no rfl rfl rfl hq4) ?_
      refine TF.skip rfl (wantF_no rfl rfl rfl hq4) ?_
      refine TF.u (v := (.bool _)) rfl rfl (pr_pickT rfl hq4 rfl) ?_
      refine TF.nil (nx_then ?_)
      refine cw_condT (t := _) rfl rfl rfl ?_
      refine cw_seq ?_
      -- region 2 ref.go:36
      refine cw_region (clf [.U, .U]) [0, 1] rfl (by kernel_rfl) (by decide) ?_
      refine TF.u (v := (.int .u64 _)) rfl rfl (pr_assign rfl) ?_
      refine TF.u (v := (.int .i64 _)) rfl rfl (pr_assign rfl) ?_
      refine TF.nil (nx_then ?_)
      refine cw_ret (rt_then (fin2 (v := (.int .u64 _)) (v' := (.int .i64 _)) Try.results58 rfl rfl rfl rfl ?_))
      exact ⟨by rw [takeS_arg (by omega)]; rfl, H.base⟩
    ·
      have hp4 := dF hq4
      refine TF.ug (v := (.int .i64 _)) rfl rfl (wantF_yes rfl rfl rfl hq4) (pr_move rfl) ?_
      refine TF.ug (v := (.bool _)) rfl rfl (wantF_yes rfl rfl rfl hq4) (pr_lss rfl rfl) ?_
      refine TF.u (v := (.bool _)) rfl rfl (pr_pickF rfl hq4 rfl) ?_
      refine TF.nil (nx_then ?_)
      refine cw_cond _ rfl rfl (fun hq6 => ?_) (fun hq6 => ?_)
      ·
        have hp6 := dT hq6
        refine cw_seq ?_
        -- region 2 ref.go:36
        refine cw_region (clf [.U, .U]) [0, 1] rfl (by kernel_rfl) (by decide) ?_
        refine TF.u (v := (.int .u64 _)) rfl rfl (pr_assign rfl) ?_
        refine TF.u (v := (.int .i64 _)) rfl rfl (pr_assign rfl) ?_
        refine TF.nil (nx_then ?_)
        refine cw_ret (rt_then (fin2 (v := (.int .u64 _)) (v' := (.int .i64 _)) Try.results58 rfl rfl rfl rfl ?_))
        exact ⟨by rw [takeS_arg (by omega)]; rfl, H.base⟩
      ·
        have hp6 := dF hq6
        refine cw_skip (nx_then ?_)
        refine cw_seq ?_
        refine cw_seq ?_
        -- region 3 ref.go:38
        refine cw_region (clf [.U, .U, .U, .U, .U, .U, .U, .U, .U, .U, .U, .U]) [0, 1, 2, 3, 4, 5, 6, 7, 8, 9, 10, 11] rfl (by kernel_rfl) (by decide) ?_
        refine TF.u (v := (.int .i64 _)) rfl rfl (pr_move rfl) ?_
        refine TF.u (v := (T _)) rfl rfl (pr_move rfl) ?_
        refine TF.u (v := (.int .i64 _)) rfl rfl (pr_slen rfl Try.underlying9 rfl) ?_
        refine TF.u (v := (.bool _)) rfl rfl (pr_gtr rfl rfl) ?_
        refine TF.u (v := (.bool _)) rfl rfl (pr_move rfl) ?_
        refine TF.split (dj := 24) rfl (fun hq8 => ?_) (fun hq8 => ?_)
        ·
          have hp8 := dT hq8
          refine TF.skip rfl (wantF_no rfl rfl rfl hq8) ?_
          refine TF.skip rfl (wantF_no rfl rfl rfl hq8) ?_
          refine TF.skip rfl (wantF_no rfl rfl rfl hq8) ?_
          refine TF.skip rfl (wantF_no rfl rfl rfl hq8) ?_
          refine TF.skip rfl (wantF_no rfl rfl rfl hq8) ?_
          refine TF.skip rfl (wantF_no rfl rfl rfl hq8) ?_
          refine TF.u (v := (.bool _)) rfl rfl (pr_pickT rfl hq8 rfl) ?_
          refine TF.nil (nx_then ?_)
          refine cw_condT (t := _) rfl rfl rfl ?_
          refine cw_seq ?_
          -- region 4 ref.go:39
          refine cw_region (clf [.U, .U]) [0, 1] rfl (by kernel_rfl) (by decide) ?_
          refine TF.u (v := (.int .u64 _)) rfl rfl (pr_assign rfl) ?_
          refine TF.u (v := (.int .i64 _)) rfl rfl (pr_assign rfl) ?_
          refine TF.nil (nx_then ?_)
          refine cw_ret (rt_then (fin2 (v := (.int .u64 _)) (v' := (.int .i64 _)) Try.results58 rfl rfl rfl rfl ?_))
          exact ⟨by rw [takeS_short (by omega) (by omega)]; rfl, H.base⟩
        ·
          have hp8 := dF hq8
          refine TF.ug (v := (T _)) rfl rfl (wantF_yes rfl rfl rfl hq8) (pr_move rfl) ?_
          refine TF.ug (v := (.int .i64 _)) rfl rfl (wantF_yes rfl rfl rfl hq8) (pr_slen rfl Try.underlying9 rfl) ?_
          refine TF.ug (v := (.int .i64 _)) rfl rfl (wantF_yes rfl rfl rfl hq8) (pr_move rfl) ?_
          refine TF.ug (v := (.int .i64 _)) rfl rfl (wantF_yes rfl rfl rfl hq8) (pr_sub rfl rfl (IntWalk.i64_in _ (by omega))) ?_
          refine TF.ug (v := (.int .i64 _)) rfl rfl (wantF_yes rfl rfl rfl hq8) (pr_move rfl) ?_
          refine TF.ug (v := (.bool _)) rfl rfl (wantF_yes rfl rfl rfl hq8) (pr_lss rfl rfl) ?_
          refine TF.u (v := (.bool _)) rfl rfl (pr_pickF rfl hq8 rfl) ?_
          refine TF.nil (nx_then ?_)
          refine cw_cond _ rfl rfl (fun hq10 => ?_) (fun hq10 => ?_)
          ·
            have hp10 := dT hq10
            refine cw_seq ?_
            -- region 4 ref.go:39
            refine cw_region (clf [.U, .U]) [0, 1] rfl (by kernel_rfl) (by decide) ?_
            refine TF.u (v := (.int .u64 _)) rfl rfl (pr_assign rfl) ?_
            refine TF.u (v := (.int .i64 _)) rfl rfl (pr_assign rfl) ?_
            refine TF.nil (nx_then ?_)
            refine cw_ret (rt_then (fin2 (v := (.int .u64 _)) (v' := (.int .i64 _)) Try.results58 rfl rfl rfl rfl ?_))
            exact ⟨by rw [takeS_short (by omega) (by omega)]; rfl, H.base⟩
          ·
            have hp10 := dF hq10
            refine cw_skip (nx_then ?_)
            refine cw_seq ?_
            -- region 5 ref.go:41
            refine cw_region (clf [.U]) [0] rfl (by kernel_rfl) (by decide) ?_
            obtain ⟨a, rfl⟩ := Int.eq_ofNat_of_zero_le (show 0 ≤ at_ by omega)
            obtain ⟨wd, rfl⟩ := Int.eq_ofNat_of_zero_le (show 0 ≤ width by omega)
            have hln : ((bs.drop a).take wd).length = wd := by rw [List.length_take, List.length_drop]; omega
            refine TF.u (v := (.int .u64 _)) rfl rfl (pr_assign rfl) ?_
            refine TF.nil (nx_then ?_)
            refine cw_seq ?_
            refine cw_seq ?_
            -- region 6 ref.go:42
            refine cw_region (clf [.U]) [0] rfl (by kernel_rfl) (by decide) ?_
            refine TF.u (v := (.int .i64 _)) rfl rfl (pr_assign rfl) ?_
            refine TF.nil (nx_then ?_)
            refine cw_block ?_
            refine cw_loop (fun m_q f_q w => ∃ (g_ : Nat → Value) (i : Nat), m_q = wd - i ∧ f_q = (upd (upd (upd (upd (upd g_ 0 (T bs)) 1 (.int .i64 (a : Int))) 2 (.int .i64 (wd : Int))) 9 (.int .i64 (i : Int))) 8 (.int .u64 ((unbe (((bs.drop a).take wd).take i) : Nat) : Int))) ∧ Sat [] w0 w [] ∧ (i ≤ wd)) (wd - 0) ?_ ?_
            ·
              exact ⟨_, 0, rfl, (cutS (cutS (cutS (cutS (cutS rfl rfl) rfl) rfl) rfl) rfl), H, Nat.zero_le _⟩
            ·
              clear H
              rintro m_ f_ w ⟨g_, i, rfl, rfl, H, hi⟩
              refine cw_seq ?_
              refine cw_seq ?_
              -- region 7 ref.go:42
              refine cw_region (clf [.U, .U, .U]) [0, 1, 2] rfl (by kernel_rfl) (by decide) ?_
              refine TF.u (v := (.int .i64 _)) rfl rfl (pr_move rfl) ?_
              refine TF.u (v := (.int .i64 _)) rfl rfl (pr_move rfl) ?_
              refine TF.u (v := (.bool _)) rfl rfl (pr_lss rfl rfl) ?_
              refine TF.nil (nx_then ?_)
              refine cw_cond _ rfl rfl (fun hq12 => ?_) (fun hq12 => ?_)
              ·
                have hp12 := dT hq12
                refine cw_skip (nx_then ?_)
                refine cw_seq ?_
                refine cw_block ?_
                -- region 9 ref.go:43
                refine cw_region (clf [.U, .U, .U, .U, .U, .U, .U, .U, .U, .U]) [0, 1, 2, 3, 4, 5, 6, 7, 8, 9] rfl (by kernel_rfl) (by decide) ?_
                have hul := unbe_lt (((bs.drop a).take wd).take i)
                rw [List.length_take, hln, Nat.min_eq_left (by omega)] at hul
                have hp7 : (256 : Nat) ^ i ≤ 256 ^ 7 := Nat.pow_le_pow_right (by omega) (by omega)
                have hby := (bs.getD ((a : Int) + (i : Int)).toNat 0).toNat_lt
                refine TF.u (v := (.int .u64 _)) rfl rfl (pr_move rfl) ?_
                refine TF.u (v := (.int .u64 _)) rfl rfl (pr_mul rfl rfl (IntWalk.u64_in _ (by omega))) ?_
                refine TF.u (v := (T _)) rfl rfl (pr_move rfl) ?_
                refine TF.u (v := (.int .i64 _)) rfl rfl (pr_move rfl) ?_
                refine TF.u (v := (.int .i64 _)) rfl rfl (pr_move rfl) ?_
                refine TF.u (v := (.int .i64 _)) rfl rfl (pr_add rfl rfl (IntWalk.i64_in _ (by omega))) ?_
                refine TF.u (v := (.int .u8 _)) rfl rfl (pr_sindex Try.underlying9 rfl rfl (by omega) (by omega) rfl) ?_
                refine TF.u (v := (.int .u64 _)) rfl rfl (pr_conv Try.underlying5 Try.underlying22 rfl (IntWalk.u64_in _ (by omega))) ?_
                refine TF.u (v := (.int .u64 _)) rfl rfl (pr_add rfl rfl (IntWalk.u64_in _ (by omega))) ?_
                refine TF.u (v := (.int .u64 _)) rfl rfl (pr_assign rfl) ?_
                refine TF.nil (nx_block (nx_then ?_))
                -- region 8 ref.go:42
                refine cw_region (clf [.U, .U, .U]) [0, 1, 2] rfl (by kernel_rfl) (by decide) ?_
                refine TF.u (v := (.int .i64 _)) rfl rfl (pr_move rfl) ?_
                refine TF.u (v := (.int .i64 _)) rfl rfl (pr_add rfl rfl (IntWalk.i64_in _ (by omega))) ?_
                refine TF.u (v := (.int .i64 _)) rfl rfl (pr_assign rfl) ?_
                have htk := take_succ_getD ((bs.drop a).take wd) i (by rw [hln]; omega)
                have hgd := cut_getD bs a wd i (by omega)
                refine TF.nil (nx_loop (m' := wd - (i + 1)) (by omega) ?_)
                exact ⟨_, i + 1, rfl, (cutS (cutS (cutS (cutS (cutS rfl rfl) rfl) rfl) rfl) (by rw [htk, unbe_snoc, hgd]; rfl)), H, by omega⟩
              ·
                have hp12 := dF hq12
                refine cw_exit (ex_then (ex_then (ex_here (nx_then ?_))))
                refine cw_seq ?_
                -- region 10 ref.go:45
                refine cw_region (clf [.U, .U, .U]) [0, 1, 2] rfl (by kernel_rfl) (by decide) ?_
                refine TF.u (v := (.int .u64 _)) rfl rfl (pr_move rfl) ?_
                refine TF.u (v := (.int .u64 _)) rfl rfl (pr_assign rfl) ?_
                refine TF.u (v := (.int .i64 _)) rfl rfl (pr_assign rfl) ?_
                refine TF.nil (nx_then ?_)
                refine cw_ret (fin2 (v := (.int .u64 _)) (v' := (.int .i64 _)) Try.results58 rfl rfl rfl rfl ?_)
                obtain rfl : i = wd := by omega
                rw [List.take_of_length_le (Nat.le_of_eq hln)]
                exact ⟨by rw [takeS_yes (by omega) (by omega) (by omega) (by omega) trivial], H.base⟩

theorem turn_ok (r : R) (c : UInt8) (w0 : World) :
    Calls Try.prog 64 #[.int .u32 (((r).toNat : Nat) : Int), .int .u8 (c.toNat : Int)] w0 fun e w => e = .returned (.int .u32 (((trn r c).toNat : Nat) : Int)) ∧ Below w0.heap.size w0 w := by
  refine enter (args := [.int .u32 (((r).toNat : Nat) : Int), .int .u8 (c.toNat : Int)]) Try.func64 rfl Try.ntmps64 rfl ?_
  have H := Sat.start w0
  refine cw_seq ?_
  -- region 0 sum.go:7
  refine cw_region (clf [.U]) [0] rfl (by kernel_rfl) (by decide) ?_
  refine TF.u (v := (.int .u32 _)) rfl rfl (pr_assign rfl) ?_
  refine TF.nil (nx_then ?_)
  refine cw_seq ?_
  -- region 1 sum.go:8
  refine cw_region (clf [.U, .U, .U, .U, .U]) [0, 1, 2, 3, 4] rfl (by kernel_rfl) (by decide) ?_
  refine TF.u (v := (.int .u32 _)) rfl rfl (pr_move rfl) ?_
  refine TF.u (v := (.int .u8 _)) rfl rfl (pr_move rfl) ?_
  refine TF.u (v := (.int .u32 _)) rfl rfl (pr_conv Try.underlying5 Try.underlying112 rfl (rb32 _)) ?_
  refine TF.u (v := (.int .u32 _)) rfl rfl (pr_xor rfl rfl (x32 _ _)) ?_
  refine TF.u (v := (.int .u32 _)) rfl rfl (pr_assign rfl) ?_
  refine TF.nil (nx_then ?_)
  refine cw_seq ?_
  refine cw_seq ?_
  -- region 2 sum.go:9
  refine cw_region (clf [.U]) [0] rfl (by kernel_rfl) (by decide) ?_
  refine TF.u (v := (.int .i64 _)) rfl rfl (pr_move rfl) ?_
  refine TF.nil (nx_then ?_)
  refine cw_block ?_
  refine cw_loop (fun m_q f_q w => ∃ (g_ : Nat → Value) (i : Nat), m_q = 8 - i ∧ f_q = (upd (upd g_ 0 (.int .u32 (((stps i (r ^^^ rb c)).toNat : Nat) : Int))) 9 (.int .i64 (i : Int))) ∧ Sat [] w0 w [] ∧ (i ≤ 8)) (8 - 0) ?_ ?_
  ·
    exact ⟨_, 0, rfl, (cutS (cutS rfl rfl) rfl), H, Nat.zero_le _⟩
  ·
    clear H
    rintro m_ f_ w ⟨g_, i, rfl, rfl, H, hi⟩
    refine cw_seq ?_
    -- region 3 sum.go:9
    refine cw_region (clf [.U]) [0] rfl (by kernel_rfl) (by decide) ?_
    refine TF.u (v := (.bool _)) rfl rfl (pr_lss rfl rfl) ?_
    refine TF.nil (nx_then ?_)
    refine cw_seq ?_
    refine cw_cond _ rfl rfl (fun hq2 => ?_) (fun hq2 => ?_)
    ·
      have hp2 := dT hq2
      refine cw_skip (nx_then ?_)
      refine cw_seq ?_
      refine cw_block ?_
      refine cw_seq ?_
      -- region 4 sum.go:10
      refine cw_region (clf [.U, .U, .U]) [0, 1, 2] rfl (by kernel_rfl) (by decide) ?_
      refine TF.u (v := (.int .u32 _)) rfl rfl (pr_move rfl) ?_
      refine TF.u (v := (.int .u32 _)) rfl rfl (pr_and rfl rfl (a32 _)) ?_
      refine TF.u (v := (.bool _)) rfl rfl (pr_eql rfl rfl) ?_
      refine TF.nil (nx_then ?_)
      refine cw_cond _ rfl rfl (fun hq4 => ?_) (fun hq4 => ?_)
      ·
        have hp4 := dT hq4
        -- region 5 sum.go:11
        refine cw_region (clf [.U, .U, .U, .U]) [0, 1, 2, 3] rfl (by kernel_rfl) (by decide) ?_
        have hb := low_T (by assumption)
        refine TF.u (v := (.int .u32 _)) rfl rfl (pr_move rfl) ?_
        refine TF.u (v := (.int .u32 _)) rfl rfl (pr_shr rfl rfl (by omega) (shr32 _ 1 (by omega))) ?_
        refine TF.u (v := (.int .u32 _)) rfl rfl (pr_xor rfl rfl (xp32 _)) ?_
        refine TF.u (v := (.int .u32 _)) rfl rfl (pr_assign rfl) ?_
        refine TF.nil (nx_block (nx_then ?_))
        -- region 7 sum.go:9
        refine cw_region (clf [.U, .U]) [0, 1] rfl (by kernel_rfl) (by decide) ?_
        refine TF.u (v := (.int .i64 _)) rfl rfl (pr_add rfl rfl (IntWalk.i64_in _ (by omega))) ?_
        refine TF.u (v := (.int .i64 _)) rfl rfl (pr_move rfl) ?_
        refine TF.nil (nx_loop (m' := 8 - (i + 1)) (by omega) ?_)
        exact ⟨_, i + 1, rfl, (cutS (cutS rfl (by rw [stps, stp_T hb]; rfl)) rfl), H, by omega⟩
      ·
        have hp4 := dF hq4
        -- region 6 sum.go:13
        refine cw_region (clf [.U, .U, .U]) [0, 1, 2] rfl (by kernel_rfl) (by decide) ?_
        have hb := low_F (by assumption)
        refine TF.u (v := (.int .u32 _)) rfl rfl (pr_move rfl) ?_
        refine TF.u (v := (.int .u32 _)) rfl rfl (pr_shr rfl rfl (by omega) (shr32 _ 1 (by omega))) ?_
        refine TF.u (v := (.int .u32 _)) rfl rfl (pr_assign rfl) ?_
        refine TF.nil (nx_block (nx_then ?_))
        -- region 7 sum.go:9
        refine cw_region (clf [.U, .U]) [0, 1] rfl (by kernel_rfl) (by decide) ?_
        refine TF.u (v := (.int .i64 _)) rfl rfl (pr_add rfl rfl (IntWalk.i64_in _ (by omega))) ?_
        refine TF.u (v := (.int .i64 _)) rfl rfl (pr_move rfl) ?_
        refine TF.nil (nx_loop (m' := 8 - (i + 1)) (by omega) ?_)
        exact ⟨_, i + 1, rfl, (cutS (cutS rfl (by rw [stps, stp_F hb]; rfl)) rfl), H, by omega⟩
    ·
      have hp2 := dF hq2
      refine cw_exit (ex_then (ex_then (ex_here (nx_then ?_))))
      refine cw_seq ?_
      -- region 8 sum.go:16
      refine cw_region (clf [.U, .U]) [0, 1] rfl (by kernel_rfl) (by decide) ?_
      refine TF.u (v := (.int .u32 _)) rfl rfl (pr_move rfl) ?_
      refine TF.u (v := (.int .u32 _)) rfl rfl (pr_assign rfl) ?_
      refine TF.nil (nx_then ?_)
      refine cw_ret (fin1 (v := (.int .u32 _)) Try.results64 rfl rfl ?_)
      obtain rfl : i = 8 := by omega
      exact ⟨rfl, H.base⟩

theorem more_ok (s : R) (A : Option Addr) (n c : Nat) (bs : List UInt8) (w0 : World) (hb : RdB w0 A n c bs) (hn : n ≤ 281474976710656) :
    Calls Try.prog 59 #[.int .u32 (((s).toNat : Nat) : Int), .slice A n c] w0 fun e w => e = .returned (.int .u32 (((moreS s bs).toNat : Nat) : Int)) ∧ Below w0.heap.size w0 w := by
  refine enter (args := [.int .u32 (((s).toNat : Nat) : Int), .slice A n c]) Try.func59 rfl Try.ntmps59 rfl ?_
  have H := Sat.start w0
  refine cw_seq ?_
  -- region 0 sum.go:20
  refine cw_region (clf [.U]) [0] rfl (by kernel_rfl) (by decide) ?_
  refine TF.u (v := (.int .u32 _)) rfl rfl (pr_assign rfl) ?_
  refine TF.nil (nx_then ?_)
  refine cw_seq ?_
  -- region 1 sum.go:21
  refine cw_region (clf [.U, .U, .U]) [0, 1, 2] rfl (by kernel_rfl) (by decide) ?_
  refine TF.u (v := (.int .u32 _)) rfl rfl (pr_move rfl) ?_
  refine TF.u (v := (.int .u32 _)) rfl rfl (pr_inv rfl (inv32 _)) ?_
  refine TF.u (v := (.int .u32 _)) rfl rfl (pr_assign rfl) ?_
  refine TF.nil (nx_then ?_)
  refine cw_seq ?_
  refine cw_seq ?_
  -- region 2 sum.go:22
  refine cw_region (clf [.U, .U, .U]) [0, 1, 2] rfl (by kernel_rfl) (by decide) ?_
  refine TF.u (v := (.slice _ _ _)) rfl rfl (pr_move rfl) ?_
  refine TF.u (v := (.int .i64 _)) rfl rfl (pr_len rfl Try.underlying34 rfl) ?_
  refine TF.u (v := (.int .i64 _)) rfl rfl (pr_move rfl) ?_
  refine TF.nil (nx_then ?_)
  refine cw_block ?_
  refine cw_loop (fun m_q f_q w => ∃ (g_ : Nat → Value) (i : Nat), m_q = n - i ∧ f_q = (upd (upd (upd (upd g_ 5 (.int .u32 (((runR (~~~ s) (bs.take i)).toNat : Nat) : Int))) 10 (.slice A n c)) 11 (.int .i64 (n : Int))) 12 (.int .i64 (i : Int))) ∧ Sat [] w0 w [] ∧ (i ≤ n)) (n - 0) ?_ ?_
  ·
    exact ⟨_, 0, rfl, (cutS (cutS (cutS (cutS rfl rfl) rfl) rfl) rfl), H, Nat.zero_le _⟩
  ·
    clear H
    rintro m_ f_ w ⟨g_, i, rfl, rfl, H, hi⟩
    refine cw_seq ?_
    -- region 3 sum.go:22
    refine cw_region (clf [.U]) [0] rfl (by kernel_rfl) (by decide) ?_
    refine TF.u (v := (.bool _)) rfl rfl (pr_lss rfl rfl) ?_
    refine TF.nil (nx_then ?_)
    refine cw_seq ?_
    refine cw_cond _ rfl rfl (fun hq2 => ?_) (fun hq2 => ?_)
    ·
      have hp2 := dT hq2
      refine cw_skip (nx_then ?_)
      refine cw_seq ?_
      refine cw_block ?_
      refine cw_seq ?_
      -- region 4 sum.go:22
      refine cw_region (clf [.U, .X, .U]) [0, 1, 2] rfl (by kernel_rfl) (by decide) ?_
      refine TF.idxB (hb.below H.base) rfl rfl (wantF_none rfl) Try.underlying34 (Try.ty5.s) rfl rfl (by omega) (by omega) ?_
      intro p3 hc4
      refine TF.load (v := (.int .u8 _)) rfl rfl (wantF_none rfl) Try.underlying5 rfl rfl hc4 ?_
      refine TF.u (v := (.int .u8 _)) rfl rfl (pr_assign rfl) ?_
      refine TF.nil (nx_then ?_)
      -- region 5 sum.go:23
      refine cw_region (clf [.U, .U, .X, .U]) [0, 1, 2, 3] rfl (by kernel_rfl) (by decide) ?_
      refine TF.u (v := (.int .u32 _)) rfl rfl (pr_move rfl) ?_
      refine TF.u (v := (.int .u8 _)) rfl rfl (pr_move rfl) ?_
      refine TF.call (args := [(.int .u32 _), (.int .u8 _)]) Try.fn64 rfl rfl (wantF_none rfl) rfl (turn_ok _ _ _) ?_
      rintro e_ w ⟨rfl, hb5⟩
      refine ⟨_, rfl, ?_⟩
      replace H := H.below hb5
      refine TF.u (v := (.int .u32 _)) rfl rfl (pr_assign rfl) ?_
      refine TF.nil (nx_block (nx_then ?_))
      -- region 6 sum.go:22
      refine cw_region (clf [.U, .U]) [0, 1] rfl (by kernel_rfl) (by decide) ?_
      refine TF.u (v := (.int .i64 _)) rfl rfl (pr_add rfl rfl (IntWalk.i64_in _ (by omega))) ?_
      refine TF.u (v := (.int .i64 _)) rfl rfl (pr_move rfl) ?_
      refine TF.nil (nx_loop (m' := n - (i + 1)) (by omega) ?_)
      exact ⟨_, i + 1, rfl, (cutS (cutS (cutS (cutS rfl (by rw [runR_take _ _ _ (by rw [hb.length]; omega)]; rfl)) rfl) rfl) rfl), H, by omega⟩
    ·
      have hp2 := dF hq2
      refine cw_exit (ex_then (ex_then (ex_here (nx_then ?_))))
      refine cw_seq ?_
      -- region 7 sum.go:25
      refine cw_region (clf [.U, .U, .U]) [0, 1, 2] rfl (by kernel_rfl) (by decide) ?_
      refine TF.u (v := (.int .u32 _)) rfl rfl (pr_move rfl) ?_
      refine TF.u (v := (.int .u32 _)) rfl rfl (pr_inv rfl (inv32 _)) ?_
      refine TF.u (v := (.int .u32 _)) rfl rfl (pr_assign rfl) ?_
      refine TF.nil (nx_then ?_)
      refine cw_ret (fin1 (v := (.int .u32 _)) Try.results59 rfl rfl ?_)
      obtain rfl : i = n := by omega
      rw [List.take_of_length_le (Nat.le_of_eq hb.length)]
      exact ⟨rfl, H.base⟩

theorem of_ok (A : Option Addr) (n c : Nat) (bs : List UInt8) (w0 : World) (hb : RdB w0 A n c bs) (hn : n ≤ 281474976710656) :
    Calls Try.prog 54 #[.slice A n c] w0 fun e w => e = .returned (.int .u32 (((ofS bs).toNat : Nat) : Int)) ∧ Below w0.heap.size w0 w := by
  refine enter (args := [.slice A n c]) Try.func54 rfl Try.ntmps54 rfl ?_
  have H := Sat.start w0
  refine cw_seq ?_
  -- region 0 sum.go:29
  refine cw_region (clf [.U]) [0] rfl (by kernel_rfl) (by decide) ?_
  refine TF.u (v := (.int .u32 _)) rfl rfl (pr_assign rfl) ?_
  refine TF.nil (nx_then ?_)
  refine cw_seq ?_
  -- region 1 sum.go:29
  refine cw_region (clf [.U, .X, .U]) [0, 1, 2] rfl (by kernel_rfl) (by decide) ?_
  refine TF.u (v := (.slice _ _ _)) rfl rfl (pr_move rfl) ?_
  refine TF.call (args := [(.int .u32 _), (.slice _ _ _)]) Try.fn59 rfl rfl (wantF_none rfl) rfl (more_ok (BitVec.ofNat 32 0) _ _ _ _ _ (hb.below H.base) (by first | omega | (simp only [List.length_append]; omega))) ?_
  rintro e_ w ⟨rfl, hb1⟩
  refine ⟨_, rfl, ?_⟩
  replace H := H.below hb1
  refine TF.u (v := (.int .u32 _)) rfl rfl (pr_assign rfl) ?_
  refine TF.nil (nx_then ?_)
  refine cw_ret (fin1 (v := (.int .u32 _)) Try.results54 rfl rfl ?_)
  exact ⟨rfl, H.base⟩

theorem seal_ok (A : Option Addr) (n c : Nat) (bs : List UInt8) (w0 : World) (hb : RdB w0 A n c bs) (hn : n ≤ 140737488351232) :
    Calls Try.prog 60 #[.slice A n c] w0 fun e w => ∃ A1 n1 c1, e = .returned (.slice A1 n1 c1) ∧ NewB w0 w 5 A1 n1 c1 (sealS bs) := by
  refine enter (args := [.slice A n c]) Try.func60 rfl Try.ntmps60 rfl ?_
  have H := Sat.start w0
  refine cw_seq ?_
  -- region 0 sum.go:32
  refine cw_region (clf [.U]) [0] rfl (by kernel_rfl) (by decide) ?_
  refine TF.u (v := (.slice _ _ _)) rfl rfl (pr_assign rfl) ?_
  refine TF.nil (nx_then ?_)
  refine cw_seq ?_
  -- region 1 sum.go:33
  refine cw_region (clf [.U, .X, .U]) [0, 1, 2] rfl (by kernel_rfl) (by decide) ?_
  refine TF.u (v := (.slice _ _ _)) rfl rfl (pr_move rfl) ?_
  refine TF.call (args := [(.slice _ _ _)]) Try.fn54 rfl rfl (wantF_none rfl) rfl (of_ok _ _ _ _ _ (hb.below H.base) (by first | omega | (simp only [List.length_append]; omega))) ?_
  rintro e_ w ⟨rfl, hb1⟩
  refine ⟨_, rfl, ?_⟩
  replace H := H.below hb1
  refine TF.u (v := (.int .u32 _)) rfl rfl (pr_assign rfl) ?_
  refine TF.nil (nx_then ?_)
  refine cw_seq ?_
  -- region 2 sum.go:34
  refine cw_region (clf [.U, .U, .U, .X, .U]) [0, 1, 2, 3, 4] rfl (by kernel_rfl) (by decide) ?_
  refine TF.u (v := (.slice _ _ _)) rfl rfl (pr_move rfl) ?_
  refine TF.u (v := (.int .i64 _)) rfl rfl (pr_len rfl Try.underlying34 rfl) ?_
  refine TF.u (v := (.int .i64 _)) rfl rfl (pr_add rfl rfl (IntWalk.i64_in _ (by omega))) ?_
  refine TF.make (nl := 0) (nc := n + 4) (z1 := undef) H rfl (Cx.xx rfl) (wantF_none rfl) Try.underlying34 (Try.ty5) rfl (by rfl) (by omega) (by omega) (by unfold maxLen; omega) ?_
  clear H
  intro bk2 w hltbk2 hb3 H
  rw [made_u8] at H
  replace H := H.toOwn0 (q := 0) (sz := 1) (nc := n + 4) rfl (by simp [u8s_len]) (by unfold maxLen; omega)
  replace H : Sat _ _ _ [_] := H
  refine TF.u (v := (.slice _ _ _)) rfl rfl (pr_assign rfl) ?_
  refine TF.nil (nx_then ?_)
  refine cw_seq ?_
  -- region 3 sum.go:35
  refine cw_region (clf [.U, .U, .X, .U]) [0, 1, 2, 3] rfl (by kernel_rfl) (by decide) ?_
  refine TF.u (v := (.slice _ _ _)) rfl rfl (pr_move rfl) ?_
  refine TF.u (v := (.slice _ _ _)) rfl rfl (pr_move rfl) ?_
  refine TF.append (q := 0) (v := (.slice _ _ _)) H rfl rfl rfl (wantF_none rfl) Try.underlying34 (Try.ty5) rfl Try.underlying34 (.inr ⟨_, rfl⟩) rfl rfl (Src.rdB (hb.below H.base)) (by unfold maxLen; first | omega | (simp only [List.length_append, List.length_cons, List.length_nil]; omega)) (by first | omega | (simp only [List.length_append, List.length_cons, List.length_nil]; omega)) ?_
  clear H
  intro Abk2_4 cbk2_4 w ho4 H
  replace H : Sat _ _ _ [_] := H
  rw [List.nil_append] at H
  refine TF.u (v := (.slice _ _ _)) rfl rfl (pr_assign rfl) ?_
  refine TF.nil (nx_then ?_)
  refine cw_seq ?_
  -- region 4 sum.go:36
  refine cw_region (clf [.U, .U, .U, .U, .U, .U, .U, .U, .U, .U, .U, .U, .X, .X, .U]) [0, 1, 2, 3, 4, 5, 6, 7, 8, 9, 10, 11, 12, 13, 14] rfl (by kernel_rfl) (by decide) ?_
  refine TF.u (v := (.slice _ _ _)) rfl rfl (pr_move rfl) ?_
  refine TF.u (v := (.int .u32 _)) rfl rfl (pr_move rfl) ?_
  refine TF.u (v := (.int .u8 _)) rfl rfl (pr_conv Try.underlying112 Try.underlying5 rfl (byte0 _)) ?_
  refine TF.u (v := (.int .u32 _)) rfl rfl (pr_move rfl) ?_
  refine TF.u (v := (.int .u32 _)) rfl rfl (pr_shr rfl rfl (by omega) (shr32 _ 8 (by omega))) ?_
  refine TF.u (v := (.int .u8 _)) rfl rfl (pr_conv Try.underlying112 Try.underlying5 rfl (byteK _ 1 (by omega))) ?_
  refine TF.u (v := (.int .u32 _)) rfl rfl (pr_move rfl) ?_
  refine TF.u (v := (.int .u32 _)) rfl rfl (pr_shr rfl rfl (by omega) (shr32 _ 16 (by omega))) ?_
  refine TF.u (v := (.int .u8 _)) rfl rfl (pr_conv Try.underlying112 Try.underlying5 rfl (byteK _ 2 (by omega))) ?_
  refine TF.u (v := (.int .u32 _)) rfl rfl (pr_move rfl) ?_
  refine TF.u (v := (.int .u32 _)) rfl rfl (pr_shr rfl rfl (by omega) (shr32 _ 24 (by omega))) ?_
  refine TF.u (v := (.int .u8 _)) rfl rfl (pr_conv Try.underlying112 Try.underlying5 rfl (byteK _ 3 (by omega))) ?_
  refine TF.lit (vs := [(.int .u8 _), (.int .u8 _), (.int .u8 _), (.int .u8 _)]) H rfl (Cx.xx rfl) (wantF_none rfl) Try.underlying34 (Try.ty5) rfl rfl rfl rfl rfl rfl ?_
  clear H
  intro bk5 w hltbk5 hb6 H
  replace H : Sat _ _ _ (cBlk _ _ (u8s [_, _, _, _]) :: _) := H
  replace H : Sat _ _ _ [_, _] := H
  refine TF.append (q := 1) (v := (.slice _ _ _)) H rfl rfl rfl (wantF_none rfl) Try.underlying34 (Try.ty5) rfl Try.underlying34 (.inr ⟨_, rfl⟩) rfl rfl (Src.rdB ((H.blk (k := 0) rfl).own 4 rfl (by decide)).rd) (by unfold maxLen; first | omega | (simp only [List.length_append, List.length_cons, List.length_nil]; omega)) (by first | omega | (simp only [List.length_append, List.length_cons, List.length_nil]; omega)) ?_
  clear H
  intro Abk2_7 cbk2_7 w ho7 H
  replace H : Sat _ _ _ [_, _] := H
  rw [← u8s_app] at H
  refine TF.u (v := (.slice _ _ _)) rfl rfl (pr_assign rfl) ?_
  refine TF.nil (nx_then ?_)
  refine cw_ret (fin1 (v := (.slice _ _ _)) Try.results60 rfl rfl ?_)
  exact ⟨_, _, _, rfl, H.toNew (k := 1) rfl⟩

theorem open_ok (A : Option Addr) (n c : Nat) (bs : List UInt8) (w0 : World) (hb : RdB w0 A n c bs) (hn : n ≤ 140737488351232) :
    Calls Try.prog 42 #[.slice A n c] w0 fun e w => ∃ A1 n1 c1, e = .returned (.tuple #[.slice A1 n1 c1, .int .i64 (openS bs).2]) ∧ NewB w0 w 5 A1 n1 c1 (openS bs).1 := by
  refine enter (args := [.slice A n c]) Try.func42 rfl Try.ntmps42 rfl ?_
  have H := Sat.start w0
  refine cw_seq ?_
  -- region 0 sum.go:40
  refine cw_region (clf [.U, .U]) [0, 1] rfl (by kernel_rfl) (by decide) ?_
  refine TF.u (v := (.slice _ _ _)) rfl rfl (pr_assign rfl) ?_
  refine TF.u (v := (.int .i64 _)) rfl rfl (pr_assign rfl) ?_
  refine TF.nil (nx_then ?_)
  refine cw_seq ?_
  -- region 1 sum.go:41
  refine cw_region (clf [.U, .U, .U, .U]) [0, 1, 2, 3] rfl (by kernel_rfl) (by decide) ?_
  refine TF.u (v := (.slice _ _ _)) rfl rfl (pr_move rfl) ?_
  refine TF.u (v := (.int .i64 _)) rfl rfl (pr_len rfl Try.underlying34 rfl) ?_
  refine TF.u (v := (.int .i64 _)) rfl rfl (pr_sub rfl rfl (IntWalk.i64_in _ (by omega))) ?_
  refine TF.u (v := (.int .i64 _)) rfl rfl (pr_assign rfl) ?_
  refine TF.nil (nx_then ?_)
  refine cw_seq ?_
  refine cw_seq ?_
  -- region 2 sum.go:42
  refine cw_region (clf [.U, .U]) [0, 1] rfl (by kernel_rfl) (by decide) ?_
  refine TF.u (v := (.int .i64 _)) rfl rfl (pr_move rfl) ?_
  refine TF.u (v := (.bool _)) rfl rfl (pr_lss rfl rfl) ?_
  refine TF.nil (nx_then ?_)
  refine cw_cond _ rfl rfl (fun hq2 => ?_) (fun hq2 => ?_)
  ·
    have hp2 := dT hq2
    refine cw_seq ?_
    -- region 3 sum.go:43
    refine cw_region (clf [.U, .U]) [0, 1] rfl (by kernel_rfl) (by decide) ?_
    refine TF.u (v := (.slice _ _ _)) rfl rfl (pr_assign rfl) ?_
    refine TF.u (v := (.int .i64 _)) rfl rfl (pr_assign rfl) ?_
    refine TF.nil (nx_then ?_)
    refine cw_ret (rt_then (fin2 (v := (.slice _ _ _)) (v' := (.int .i64 _)) Try.results42 rfl rfl rfl rfl ?_))
    rw [openS_short (by rw [hb.length]; omega)]
    exact ⟨_, _, _, rfl, NewS.nilB H.base _ _⟩
  ·
    have hp2 := dF hq2
    refine cw_skip (nx_then ?_)
    refine cw_seq ?_
    -- region 4 sum.go:45
    refine cw_drawS H Try.wide_ (clf [.U, .U, .U, .R, .U, .U, .U, .U, .U, .R, .U, .U, .U, .U, .U, .U, .U, .R, .U, .U, .U, .U, .U, .U, .U, .R, .U, .U, .U, .U]) [0, 1, 2, 3, 4, 5, 6, 7, 8, 9, 10, 11, 12, 13, 14, 15, 16, 17, 18, 19, 20, 21, 22, 23, 24, 25, 26, 27, 28, 29] (by kernel_rfl) (by kernel_rfl) ?_
    clear H
    intro w hbr H hB
    obtain ⟨k, rfl⟩ : ∃ k, n = k + 4 := ⟨n - 4, by omega⟩
    have e4 : ((k + 4 : Nat) : Int) - 4 = (k : Int) := by omega
    rw [e4]
    have hcap := hb.cap
    refine TF.u (v := (.slice _ _ _)) rfl rfl (pr_move rfl) ?_
    refine TF.u (v := (.int .i64 _)) rfl rfl (pr_move rfl) ?_
    refine TF.idxB (hb.below H.base) rfl rfl (wantF_none rfl) Try.underlying34 (Try.ty5.s) rfl rfl (by omega) (by omega) ?_
    intro p3 hc4
    refine TF.loadr (v := (.int .u8 _)) rfl rfl (wantF_none rfl) Try.underlying5 rfl rfl (cellB hc4) ?_
    refine TF.u (v := (.int .u32 _)) rfl rfl (pr_conv Try.underlying5 Try.underlying112 rfl (rb32 _)) ?_
    refine TF.u (v := (.slice _ _ _)) rfl rfl (pr_move rfl) ?_
    refine TF.u (v := (.int .i64 _)) rfl rfl (pr_move rfl) ?_
    refine TF.u (v := (.int .i64 _)) rfl rfl (pr_add rfl rfl (IntWalk.i64_in _ (by omega))) ?_
    refine TF.idxB (hb.below H.base) rfl rfl (wantF_none rfl) Try.underlying34 (Try.ty5.s) rfl rfl (by omega) (by omega) ?_
    intro p5 hc6
    refine TF.loadr (v := (.int .u8 _)) rfl rfl (wantF_none rfl) Try.underlying5 rfl rfl (cellB hc6) ?_
    refine TF.u (v := (.int .u32 _)) rfl rfl (pr_conv Try.underlying5 Try.underlying112 rfl (rb32 _)) ?_
    refine TF.u (v := (.int .u32 _)) rfl rfl (pr_shl rfl rfl (by omega) (shl32 _ 8 (by omega))) ?_
    refine TF.u (v := (.int .u32 _)) rfl rfl (pr_or rfl rfl (o32 _ _)) ?_
    refine TF.u (v := (.slice _ _ _)) rfl rfl (pr_move rfl) ?_
    refine TF.u (v := (.int .i64 _)) rfl rfl (pr_move rfl) ?_
    refine TF.u (v := (.int .i64 _)) rfl rfl (pr_add rfl rfl (IntWalk.i64_in _ (by omega))) ?_
    refine TF.idxB (hb.below H.base) rfl rfl (wantF_none rfl) Try.underlying34 (Try.ty5.s) rfl rfl (by omega) (by omega) ?_
    intro p7 hc8
    refine TF.loadr (v := (.int .u8 _)) rfl rfl (wantF_none rfl) Try.underlying5 rfl rfl (cellB hc8) ?_
    refine TF.u (v := (.int .u32 _)) rfl rfl (pr_conv Try.underlying5 Try.underlying112 rfl (rb32 _)) ?_
    refine TF.u (v := (.int .u32 _)) rfl rfl (pr_shl rfl rfl (by omega) (shl32 _ 16 (by omega))) ?_
    refine TF.u (v := (.int .u32 _)) rfl rfl (pr_or rfl rfl (o32 _ _)) ?_
    refine TF.u (v := (.slice _ _ _)) rfl rfl (pr_move rfl) ?_
    refine TF.u (v := (.int .i64 _)) rfl rfl (pr_move rfl) ?_
    refine TF.u (v := (.int .i64 _)) rfl rfl (pr_add rfl rfl (IntWalk.i64_in _ (by omega))) ?_
    refine TF.idxB (hb.below H.base) rfl rfl (wantF_none rfl) Try.underlying34 (Try.ty5.s) rfl rfl (by omega) (by omega) ?_
    intro p9 hc10
    refine TF.loadr (v := (.int .u8 _)) rfl rfl (wantF_none rfl) Try.underlying5 rfl rfl (cellB hc10) ?_
    refine TF.u (v := (.int .u32 _)) rfl rfl (pr_conv Try.underlying5 Try.underlying112 rfl (rb32 _)) ?_
    refine TF.u (v := (.int .u32 _)) rfl rfl (pr_shl rfl rfl (by omega) (shl32 _ 24 (by omega))) ?_
    refine TF.u (v := (.int .u32 _)) rfl rfl (pr_or rfl rfl (o32 _ _)) ?_
    refine TF.u (v := (.int .u32 _)) rfl rfl (pr_assign rfl) ?_
    clear hB
    refine TF.nil (nx_then ?_)
    refine cw_seq ?_
    refine cw_seq ?_
    -- region 5 sum.go:46
    refine cw_region (clf [.U, .U, .U, .X, .U, .U]) [0, 1, 2, 3, 4, 5] rfl (by kernel_rfl) (by decide) ?_
    refine TF.u (v := (.slice _ _ _)) rfl rfl (pr_move rfl) ?_
    refine TF.u (v := (.int .i64 _)) rfl rfl (pr_move rfl) ?_
    refine TF.u (v := (.slice _ _ _)) rfl rfl (pr_cut (l := 0) (h := k) (mm := c) Try.underlying34 (Try.ty5.s) rfl (.inl ⟨rfl, rfl⟩) (.inr ⟨_, _, rfl, rfl⟩) (.inl ⟨rfl, rfl⟩) (by omega) (by omega) (by omega) (n' := k) (c' := c) (by omega) (by omega)) ?_
    have hcut11 := RdB.cut (lo := 0) (hi := k) (m := c) (n' := k) (c' := c) (hb.below H.base) (by omega) (by omega) (by omega) (by omega) (by omega) (by omega)
    refine TF.call (args := [(.slice _ _ _)]) Try.fn54 rfl rfl (wantF_none rfl) rfl (of_ok _ _ _ _ _ hcut11 (by first | omega | (simp only [List.length_append]; omega))) ?_
    rintro e_ w ⟨rfl, hb12⟩
    refine ⟨_, rfl, ?_⟩
    replace hcut11 := hcut11.below hb12
    replace H := H.below hb12
    refine TF.u (v := (.int .u32 _)) rfl rfl (pr_move rfl) ?_
    refine TF.u (v := (.bool _)) rfl rfl (pr_neq rfl rfl) ?_
    refine TF.nil (nx_then ?_)
    refine cw_cond _ rfl rfl (fun hq14 => ?_) (fun hq14 => ?_)
    ·
      have hp14 := dF (nT hq14)
      refine cw_seq ?_
      -- region 6 sum.go:47
      refine cw_region (clf [.U, .U]) [0, 1] rfl (by kernel_rfl) (by decide) ?_
      refine TF.u (v := (.slice _ _ _)) rfl rfl (pr_assign rfl) ?_
      refine TF.u (v := (.int .i64 _)) rfl rfl (pr_assign rfl) ?_
      refine TF.nil (nx_then ?_)
      refine cw_ret (rt_then (fin2 (v := (.slice _ _ _)) (v' := (.int .i64 _)) Try.results42 rfl rfl rfl rfl ?_))
      rw [openS_no hb.length (toNat_ne (by assumption))]
      exact ⟨_, _, _, rfl, NewS.nilB H.base _ _⟩
    ·
      have hp14 := dT (nF hq14)
      refine cw_skip (nx_then ?_)
      refine cw_seq ?_
      -- region 7 sum.go:49
      refine cw_drawS H Try.wide_ (clf [.U, .P, .U, .U, .U, .X, .U, .U]) [0, 2, 3, 4, 1, 5, 6, 7] (by kernel_rfl) (by kernel_rfl) ?_
      clear H
      intro w hbr H hB
      replace hcut11 := hcut11.below hbr
      refine TF.u (v := (.int .i64 _)) rfl rfl (pr_move rfl) ?_
      refine TF.u (v := (.slice _ _ _)) rfl rfl (pr_move rfl) ?_
      refine TF.u (v := (.int .i64 _)) rfl rfl (pr_move rfl) ?_
      refine TF.u (v := (.slice _ _ _)) rfl rfl (pr_cut (l := 0) (h := k) (mm := c) Try.underlying34 (Try.ty5.s) rfl (.inl ⟨rfl, rfl⟩) (.inr ⟨_, _, rfl, rfl⟩) (.inl ⟨rfl, rfl⟩) (by omega) (by omega) (by omega) (n' := k) (c' := c) (by omega) (by omega)) ?_
      have hcut15 := RdB.cut (lo := 0) (hi := k) (m := c) (n' := k) (c' := c) (hb.below H.base) (by omega) (by omega) (by omega) (by omega) (by omega) (by omega)
      refine TF.make (nl := 0) (nc := k) (z1 := undef) H rfl (Cx.re hB rfl) (wantF_none rfl) Try.underlying34 (Try.ty5) rfl rfl (by omega) (by omega) (by unfold maxLen; omega) ?_
      clear H
      intro bk16 w hltbk16 hb17 H
      replace hB := Below.refl w.heap.size w
      replace hcut11 := hcut11.below hb17
      replace hcut15 := hcut15.below hb17
      rw [made_u8] at H
      replace H := H.toOwn0 (q := 0) (sz := 1) (nc := k) rfl (by simp [u8s_len]) (by unfold maxLen; omega)
      replace H : Sat _ _ _ [_] := H
      refine TF.append (q := 0) (v := (.slice _ _ _)) H rfl rfl rfl (wantF_none rfl) Try.underlying34 (Try.ty5) rfl Try.underlying34 (.inr ⟨_, rfl⟩) rfl rfl (Src.rdB hcut15) (by unfold maxLen; first | omega | (simp only [List.length_append, List.length_cons, List.length_nil]; omega)) (by first | omega | (simp only [List.length_append, List.length_cons, List.length_nil]; omega)) ?_
      clear H
      intro Abk16_18 cbk16_18 w ho18 H
      replace H : Sat _ _ _ [_] := H
      rw [List.nil_append] at H
      refine TF.u (v := (.slice _ _ _)) rfl rfl (pr_assign rfl) ?_
      refine TF.u (v := (.int .i64 _)) rfl rfl (pr_assign rfl) ?_
      clear hB
      refine TF.nil (nx_then ?_)
      refine cw_ret (fin2 (v := (.slice _ _ _)) (v' := (.int .i64 _)) Try.results42 rfl rfl rfl rfl ?_)
      rw [openS_yes hb.length (toNat_eq (by assumption))]
      exact ⟨_, _, _, rfl, H.toNew (k := 0) rfl⟩

theorem rrun_ok (r : R) (b : List UInt8) (w0 : World) (hb : b.length ≤ 140737488355328) :
    Calls Try.prog 65 #[.int .u64 (((r).toNat : Nat) : Int), T b] w0 fun e w => e = .returned (.int .u64 (((runR r b).toNat : Nat) : Int)) ∧ Below w0.heap.size w0 w := by
  refine enter (args := [.int .u64 (((r).toNat : Nat) : Int), T b]) Try.func65 rfl Try.ntmps65 rfl ?_
  have H := Sat.start w0
  refine cw_seq ?_
  -- region 0 ref.go:5
  refine cw_region (clf [.U]) [0] rfl (by kernel_rfl) (by decide) ?_
  refine TF.u (v := (.int .u64 _)) rfl rfl (pr_assign rfl) ?_
  refine TF.nil (nx_then ?_)
  refine cw_seq ?_
  refine cw_seq ?_
  -- region 1 ref.go:6
  refine cw_region (clf [.U]) [0] rfl (by kernel_rfl) (by decide) ?_
  refine TF.u (v := (.int .i64 _)) rfl rfl (pr_assign rfl) ?_
  refine TF.nil (nx_then ?_)
  refine cw_block ?_
  refine cw_loop (fun m_q f_q w => ∃ (g_ : Nat → Value) (i : Nat), m_q = 8 * b.length - i ∧ f_q = (upd (upd (upd g_ 0 (.int .u64 (((runTo (bitAt b) r i).toNat : Nat) : Int))) 1 (T b)) 5 (.int .i64 (i : Int))) ∧ Sat [] w0 w [] ∧ (i ≤ 8 * b.length)) (8 * b.length - 0) ?_ ?_
  ·
    exact ⟨_, 0, rfl, (cutS (cutS (cutS rfl rfl) rfl) rfl), H, Nat.zero_le _⟩
  ·
    clear H
    rintro m_ f_ w ⟨g_, i, rfl, rfl, H, hi⟩
    refine cw_seq ?_
    refine cw_seq ?_
    -- region 2 ref.go:6
    refine cw_region (clf [.U, .U, .U, .U, .U]) [0, 1, 2, 3, 4] rfl (by kernel_rfl) (by decide) ?_
    refine TF.u (v := (.int .i64 _)) rfl rfl (pr_move rfl) ?_
    refine TF.u (v := (T _)) rfl rfl (pr_move rfl) ?_
    refine TF.u (v := (.int .i64 _)) rfl rfl (pr_slen rfl Try.underlying9 rfl) ?_
    refine TF.u (v := (.int .i64 _)) rfl rfl (pr_mul rfl rfl (IntWalk.i64_in _ (by omega))) ?_
    refine TF.u (v := (.bool _)) rfl rfl (pr_lss rfl rfl) ?_
    refine TF.nil (nx_then ?_)
    refine cw_cond _ rfl rfl (fun hq2 => ?_) (fun hq2 => ?_)
    ·
      have hp2 := dT hq2
      refine cw_skip (nx_then ?_)
      refine cw_seq ?_
      refine cw_block ?_
      refine cw_seq ?_
      -- region 4 ref.go:7
      refine cw_region (clf [.U, .U, .U, .U, .U, .U, .U, .U, .U, .U, .U]) [0, 1, 2, 3, 4, 5, 6, 7, 8, 9, 10] rfl (by kernel_rfl) (by decide) ?_
      refine TF.u (v := (T _)) rfl rfl (pr_move rfl) ?_
      refine TF.u (v := (.int .i64 _)) rfl rfl (pr_move rfl) ?_
      refine TF.u (v := (.int .i64 _)) rfl rfl (pr_quo rfl rfl (by omega) (show _ = ((i / 8 : Nat) : Int) from IntWalk.i64_in _ (by have : ((i : Int).tdiv 8) = ((i / 8 : Nat) : Int) := rfl; omega))) ?_
      refine TF.u (v := (.int .u8 _)) rfl rfl (pr_sindex Try.underlying9 rfl rfl (by omega) (by omega) rfl) ?_
      refine TF.u (v := (.int .u64 _)) rfl rfl (pr_conv Try.underlying5 Try.underlying22 rfl (IntWalk.u64_in _ (by have := (b.getD ((i / 8 : Nat) : Int).toNat 0).toNat_lt; omega))) ?_
      refine TF.u (v := (.int .i64 _)) rfl rfl (pr_move rfl) ?_
      refine TF.u (v := (.int .i64 _)) rfl rfl (pr_rem rfl rfl (by omega) (show _ = ((i % 8 : Nat) : Int) from rfl)) ?_
      refine TF.u (v := (.int .u64 _)) rfl rfl (pr_conv Try.underlying3 Try.underlying85 rfl (IntWalk.u64_in _ (by omega))) ?_
      refine TF.u (v := (.int .u64 _)) rfl rfl (pr_shr rfl rfl (by omega) rfl) ?_
      refine TF.u (v := (.int .u64 _)) rfl rfl (pr_rem rfl rfl (by omega) bit64) ?_
      refine TF.u (v := (.int .u64 _)) rfl rfl (pr_assign rfl) ?_
      refine TF.nil (nx_then ?_)
      refine cw_seq ?_
      -- region 5 ref.go:8
      refine cw_region (clf [.U, .U, .U]) [0, 1, 2] rfl (by kernel_rfl) (by decide) ?_
      refine TF.u (v := (.int .u64 _)) rfl rfl (pr_move rfl) ?_
      refine TF.u (v := (.int .u64 _)) rfl rfl (pr_rem rfl rfl (by omega) (low64 _)) ?_
      refine TF.u (v := (.int .u64 _)) rfl rfl (pr_assign rfl) ?_
      refine TF.nil (nx_then ?_)
      refine cw_seq ?_
      -- region 6 ref.go:9
      refine cw_region (clf [.U, .U, .U]) [0, 1, 2] rfl (by kernel_rfl) (by decide) ?_
      refine TF.u (v := (.int .u64 _)) rfl rfl (pr_move rfl) ?_
      refine TF.u (v := (.int .u64 _)) rfl rfl (pr_quo rfl rfl (by omega) (half64 _)) ?_
      refine TF.u (v := (.int .u64 _)) rfl rfl (pr_assign rfl) ?_
      refine TF.nil (nx_then ?_)
      refine cw_seq ?_
      -- region 7 ref.go:10
      refine cw_region (clf [.U, .U, .U]) [0, 1, 2] rfl (by kernel_rfl) (by decide) ?_
      refine TF.u (v := (.int .u64 _)) rfl rfl (pr_move rfl) ?_
      refine TF.u (v := (.int .u64 _)) rfl rfl (pr_move rfl) ?_
      refine TF.u (v := (.bool _)) rfl rfl (pr_neq rfl rfl) ?_
      refine TF.nil (nx_then ?_)
      refine cw_cond _ rfl rfl (fun hq4 => ?_) (fun hq4 => ?_)
      ·
        have hp4 := dF (nT hq4)
        -- region 8 ref.go:11
        refine cw_region (clf [.U, .U, .U]) [0, 1, 2] rfl (by kernel_rfl) (by decide) ?_
        
        refine TF.u (v := (.int .u64 _)) rfl rfl (pr_move rfl) ?_
        refine TF.u (v := (.int .u64 _)) rfl rfl (pr_xor rfl rfl (xp64 _)) ?_
        refine TF.u (v := (.int .u64 _)) rfl rfl (pr_assign rfl) ?_
        refine TF.nil (nx_block (nx_then ?_))
        -- region 3 ref.go:6
        refine cw_region (clf [.U, .U, .U]) [0, 1, 2] rfl (by kernel_rfl) (by decide) ?_
        refine TF.u (v := (.int .i64 _)) rfl rfl (pr_move rfl) ?_
        refine TF.u (v := (.int .i64 _)) rfl rfl (pr_add rfl rfl (IntWalk.i64_in _ (by omega))) ?_
        refine TF.u (v := (.int .i64 _)) rfl rfl (pr_assign rfl) ?_
        refine TF.nil (nx_loop (m' := 8 * b.length - (i + 1)) (by omega) ?_)
        exact ⟨_, i + 1, rfl, (cutS (cutS (cutS rfl (by rw [runTo, step_ne (by assumption)]; rfl)) rfl) rfl), H, by omega⟩
      ·
        have hp4 := dT (nF hq4)
        refine cw_skip (nx_block (nx_then ?_))
        -- region 3 ref.go:6
        refine cw_region (clf [.U, .U, .U]) [0, 1, 2] rfl (by kernel_rfl) (by decide) ?_
        refine TF.u (v := (.int .i64 _)) rfl rfl (pr_move rfl) ?_
        refine TF.u (v := (.int .i64 _)) rfl rfl (pr_add rfl rfl (IntWalk.i64_in _ (by omega))) ?_
        refine TF.u (v := (.int .i64 _)) rfl rfl (pr_assign rfl) ?_
        refine TF.nil (nx_loop (m' := 8 * b.length - (i + 1)) (by omega) ?_)
        exact ⟨_, i + 1, rfl, (cutS (cutS (cutS rfl (by rw [runTo, step_eq (by assumption)]; rfl)) rfl) rfl), H, by omega⟩
    ·
      have hp2 := dF hq2
      refine cw_exit (ex_then (ex_then (ex_here (nx_then ?_))))
      refine cw_seq ?_
      -- region 9 ref.go:14
      refine cw_region (clf [.U, .U]) [0, 1] rfl (by kernel_rfl) (by decide) ?_
      refine TF.u (v := (.int .u64 _)) rfl rfl (pr_move rfl) ?_
      refine TF.u (v := (.int .u64 _)) rfl rfl (pr_assign rfl) ?_
      refine TF.nil (nx_then ?_)
      refine cw_ret (fin1 (v := (.int .u64 _)) Try.results65 rfl rfl ?_)
      obtain rfl : i = 8 * b.length := by omega
      exact ⟨by rw [runR_bits], H.base⟩

theorem rof_ok (b : List UInt8) (w0 : World) (hb : b.length ≤ 140737488355328) :
    Calls Try.prog 63 #[T b] w0 fun e w => e = .returned (.int .u32 (((ofS b).toNat : Nat) : Int)) ∧ Below w0.heap.size w0 w := by
  refine enter (args := [T b]) Try.func63 rfl Try.ntmps63 rfl ?_
  have H := Sat.start w0
  refine cw_seq ?_
  -- region 0 ref.go:18
  refine cw_region (clf [.U]) [0] rfl (by kernel_rfl) (by decide) ?_
  refine TF.u (v := (.int .u32 _)) rfl rfl (pr_assign rfl) ?_
  refine TF.nil (nx_then ?_)
  refine cw_seq ?_
  -- region 1 ref.go:18
  refine cw_region (clf [.U, .X, .U, .U, .U]) [0, 1, 2, 3, 4] rfl (by kernel_rfl) (by decide) ?_
  refine TF.u (v := (T _)) rfl rfl (pr_move rfl) ?_
  refine TF.call (args := [(.int .u64 _), (T _)]) Try.fn65 rfl rfl (wantF_none rfl) rfl (rrun_ok (~~~ 0#32) _ _ (by omega)) ?_
  rintro e_ w ⟨rfl, hb1⟩
  refine ⟨_, rfl, ?_⟩
  replace H := H.below hb1
  refine TF.u (v := (.int .u64 _)) rfl rfl (pr_sub rfl rfl (sub64 _)) ?_
  refine TF.u (v := (.int .u32 _)) rfl rfl (pr_conv Try.underlying22 Try.underlying112 rfl (conv64 _)) ?_
  refine TF.u (v := (.int .u32 _)) rfl rfl (pr_assign rfl) ?_
  refine TF.nil (nx_then ?_)
  refine cw_ret (fin1 (v := (.int .u32 _)) Try.results63 rfl rfl ?_)
  exact ⟨rfl, H.base⟩

theorem rseal_ok (b : List UInt8) (w0 : World) (hb : b.length ≤ 140737488351232) :
    Calls Try.prog 57 #[T b] w0 fun e w => e = .returned (T (sealS b)) ∧ Below w0.heap.size w0 w := by
  refine enter (args := [T b]) Try.func57 rfl Try.ntmps57 rfl ?_
  have H := Sat.start w0
  refine cw_seq ?_
  -- region 0 ref.go:24
  refine cw_region (clf [.U]) [0] rfl (by kernel_rfl) (by decide) ?_
  refine TF.u (v := (T _)) rfl rfl (pr_assign rfl) ?_
  refine TF.nil (nx_then ?_)
  refine cw_seq ?_
  -- region 1 ref.go:25
  refine cw_region (clf [.U, .X, .U]) [0, 1, 2] rfl (by kernel_rfl) (by decide) ?_
  refine TF.u (v := (T _)) rfl rfl (pr_move rfl) ?_
  refine TF.call (args := [(T _)]) Try.fn63 rfl rfl (wantF_none rfl) rfl (rof_ok _ _ (by omega)) ?_
  rintro e_ w ⟨rfl, hb1⟩
  refine ⟨_, rfl, ?_⟩
  replace H := H.below hb1
  refine TF.u (v := (.int .u32 _)) rfl rfl (pr_assign rfl) ?_
  refine TF.nil (nx_then ?_)
  refine cw_seq ?_
  -- region 2 ref.go:26
  refine cw_region (clf [.U, .U]) [0, 1] rfl (by kernel_rfl) (by decide) ?_
  refine TF.u (v := (T _)) rfl rfl (pr_move rfl) ?_
  refine TF.u (v := (T _)) rfl rfl (pr_assign rfl) ?_
  refine TF.nil (nx_then ?_)
  refine cw_seq ?_
  refine cw_seq ?_
  -- region 3 ref.go:27
  refine cw_region (clf [.U]) [0] rfl (by kernel_rfl) (by decide) ?_
  refine TF.u (v := (.int .i64 _)) rfl rfl (pr_assign rfl) ?_
  refine TF.nil (nx_then ?_)
  refine cw_block ?_
  refine cw_loop (fun m_q f_q w => ∃ (g_ : Nat → Value) (i : Nat), m_q = 4 - i ∧ f_q = (upd (upd (upd g_ 3 (.int .u32 (((ofS b).toNat / 256 ^ i : Nat) : Int))) 4 (T (b ++ (le4 (ofS b)).take i))) 5 (.int .i64 (i : Int))) ∧ Sat [] w0 w [] ∧ (i ≤ 4)) (4 - 0) ?_ ?_
  ·
    exact ⟨_, 0, rfl, (cutS (cutS (cutS rfl (by rw [Nat.pow_zero, Nat.div_one]; rfl)) (by rw [List.take_zero, List.append_nil]; rfl)) rfl), H, Nat.zero_le _⟩
  ·
    clear H
    rintro m_ f_ w ⟨g_, i, rfl, rfl, H, hi⟩
    refine cw_seq ?_
    refine cw_seq ?_
    -- region 4 ref.go:27
    refine cw_region (clf [.U, .U]) [0, 1] rfl (by kernel_rfl) (by decide) ?_
    refine TF.u (v := (.int .i64 _)) rfl rfl (pr_move rfl) ?_
    refine TF.u (v := (.bool _)) rfl rfl (pr_lss rfl rfl) ?_
    refine TF.nil (nx_then ?_)
    refine cw_cond _ rfl rfl (fun hq3 => ?_) (fun hq3 => ?_)
    ·
      have hp3 := dT hq3
      refine cw_skip (nx_then ?_)
      refine cw_seq ?_
      refine cw_block ?_
      refine cw_seq ?_
      -- region 6 ref.go:28
      refine cw_region (clf [.U, .U, .U, .U, .X, .X, .U, .U]) [0, 1, 2, 3, 4, 5, 6, 7] rfl (by kernel_rfl) (by decide) ?_
      have hq4 := quo4 (ofS b) i
      have hl4 : ((le4 (ofS b)).take i).length ≤ 4 := by rw [List.length_take]; simp only [le4, List.length_cons, List.length_nil]; omega
      refine TF.u (v := (T _)) rfl rfl (pr_move rfl) ?_
      refine TF.u (v := (.int .u32 _)) rfl rfl (pr_move rfl) ?_
      refine TF.u (v := (.int .u32 _)) rfl rfl (pr_rem rfl rfl (by omega) (rem4 _ _)) ?_
      refine TF.u (v := (.int .u8 _)) rfl rfl (pr_conv Try.underlying112 Try.underlying5 rfl (conv_u8 (a := (ofS b).toNat / 256 ^ i))) ?_
      refine TF.lit (vs := [(.int .u8 _)]) H rfl (Cx.xx rfl) (wantF_none rfl) Try.underlying34 (Try.ty5) rfl rfl rfl rfl rfl rfl ?_
      clear H
      intro bk4 w hltbk4 hb5 H
      replace H : Sat _ _ _ (cBlk _ _ (u8s [_]) :: _) := H
      replace H : Sat _ _ _ [_] := H
      refine TF.tostr ((H.blk (k := 0) rfl).own 1 rfl (by decide)).rd rfl rfl (wantF_none rfl) Try.underlying34 Try.underlying5 Try.underlying9 rfl ?_
      refine TF.u (v := (T _)) rfl rfl (pr_sadd rfl rfl (by simp only [List.length_append, List.length_cons, List.length_nil]; omega)) ?_
      refine TF.u (v := (T _)) rfl rfl (pr_assign rfl) ?_
      refine TF.nil (nx_then ?_)
      -- region 7 ref.go:29
      refine cw_region (clf [.U, .U, .U]) [0, 1, 2] rfl (by kernel_rfl) (by decide) ?_
      refine TF.u (v := (.int .u32 _)) rfl rfl (pr_move rfl) ?_
      refine TF.u (v := (.int .u32 _)) rfl rfl (pr_quo rfl rfl (by omega) hq4) ?_
      refine TF.u (v := (.int .u32 _)) rfl rfl (pr_assign rfl) ?_
      refine TF.nil (nx_block (nx_then ?_))
      -- region 5 ref.go:27
      refine cw_region (clf [.U, .U, .U]) [0, 1, 2] rfl (by kernel_rfl) (by decide) ?_
      refine TF.u (v := (.int .i64 _)) rfl rfl (pr_move rfl) ?_
      refine TF.u (v := (.int .i64 _)) rfl rfl (pr_add rfl rfl (IntWalk.i64_in _ (by omega))) ?_
      refine TF.u (v := (.int .i64 _)) rfl rfl (pr_assign rfl) ?_
      refine TF.nil (nx_loop (m' := 4 - (i + 1)) (by omega) ?_)
      exact ⟨_, i + 1, rfl, (cutS (cutS (cutS rfl rfl) (by rw [le4_take (by omega), ← List.append_assoc]; rfl)) rfl), (H.del 0), by omega⟩
    ·
      have hp3 := dF hq3
      refine cw_exit (ex_then (ex_then (ex_here (nx_then ?_))))
      refine cw_seq ?_
      -- region 8 ref.go:31
      refine cw_region (clf [.U, .U]) [0, 1] rfl (by kernel_rfl) (by decide) ?_
      refine TF.u (v := (T _)) rfl rfl (pr_move rfl) ?_
      refine TF.u (v := (T _)) rfl rfl (pr_assign rfl) ?_
      refine TF.nil (nx_then ?_)
      refine cw_ret (fin1 (v := (T _)) Try.results57 rfl rfl ?_)
      obtain rfl : i = 4 := by omega
      exact ⟨rfl, H.base⟩
end Go.Proofs.Ytpncaeadbfdflaa
