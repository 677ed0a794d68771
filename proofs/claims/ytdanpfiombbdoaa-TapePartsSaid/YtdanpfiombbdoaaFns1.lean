/- What the functions of this seat compute, each walked once (no condition but those in each statement): tape.Tape).Len, tape.Tape).Synced, tape.Tape).Start, tape.Tape).Room, tape.Tape).Append, tape.Tape).Sync, tape.Tape).Cut, tape.Tape).Chop, tape.Tape).Crash, tape.Tape).Bytes, tape.New, tape.Tape).Len#nil, tape.Tape).Synced#nil, tape.Tape).Room#nil, tape.Tape).Start#nil, tape.Tape).Sync#nil, tape.Tape).Append#nil, tape.Tape).Cut#nil, tape.Tape).Chop#nil, tape.Tape).Crash#nil, tape.Tape).Bytes#nil, quaysideref08.Tape).Append, quaysideref08.Tape).Sync, quaysideref08.Tape).Cut, quaysideref08.Tape).Chop, quaysideref08.Tape).Crash, quaysideref08.New, quaysidelaw08.awake -/
import Derived.Test.YtdanpfiombbdoaaCore7
import Derived.Test.YtdanpfiombbdoaaMath
import Derived.Test.YtdanpfiombbdoaaMath1
import Derived.Test.YtdanpfiombbdoaaCrc
import Derived.Test.YtdanpfiombbdoaaCrc2
import Derived.Test.YtdanpfiombbdoaaCrc3
import Derived.Test.YtdanpfiombbdoaaCore8
import Derived.Test.YtdanpfiombbdoaaCore9
import Derived.Test.YtdanpfiombbdoaaTape
import Derived.Test.YtdanpfiombbdoaaArgs
import Derived.Test.YtdanpfiombbdoaaProg
import Derived.KernelRfl
set_option linter.unusedSimpArgs false
set_option linter.unusedVariables false
set_option maxRecDepth 10000
namespace Go.Proofs.Ytdanpfiombbdoaa
open Go.Q Go.RowKit Go.Proofs
theorem Try.wide_ : Go.Proofs.Try.prog.follows .mixedOrders = true := by kernel_rfl
theorem Try.ty3 : Ty Try.prog 3 (.int .i64) (.int .i64 0) 1 8 := ty_mk (by kernel_rfl) (by kernel_rfl)
theorem Try.ty5 : Ty Try.prog 5 (.int .u8) (.int .u8 0) 1 1 := ty_mk (by kernel_rfl) (by kernel_rfl)
theorem Try.ty9 : Ty Try.prog 9 .string (.string ⟨⟨[]⟩⟩) 1 16 := ty_mk (by kernel_rfl) (by kernel_rfl)
theorem Try.ty25 : Ty Try.prog 25 (.slice 5) (.slice none 0 0) 1 24 := ty_mk (by kernel_rfl) (by kernel_rfl)
theorem Try.ty42 : Ty Try.prog 42 (.int .u64) (.int .u64 0) 1 8 := ty_mk (by kernel_rfl) (by kernel_rfl)
theorem Try.bld44 : Bld Try.prog 44 [(.slice none 0 0), (.int .i64 0), (.int .i64 0), (.int .u64 0)] [(0, 1), (1, 1), (2, 1), (3, 1)] := bld_mk (by kernel_rfl)
theorem Try.bld49 : Bld Try.prog 49 [(.string ⟨⟨[]⟩⟩), (.int .i64 0), (.int .i64 0), (.int .u64 0)] [(0, 1), (1, 1), (2, 1), (3, 1)] := bld_mk (by kernel_rfl)
theorem Try.fn11 : Fnc Try.prog 11 Try.f11 := ⟨Try.func11, by kernel_rfl, by kernel_rfl⟩
theorem Try.fn12 : Fnc Try.prog 12 Try.f12 := ⟨Try.func12, by kernel_rfl, by kernel_rfl⟩
theorem Try.fn13 : Fnc Try.prog 13 Try.f13 := ⟨Try.func13, by kernel_rfl, by kernel_rfl⟩
theorem Try.fn17 : Fnc Try.prog 17 Try.f17 := ⟨Try.func17, by kernel_rfl, by kernel_rfl⟩
theorem Try.fn24 : Fnc Try.prog 24 Try.f24 := ⟨Try.func24, by kernel_rfl, by kernel_rfl⟩
theorem tlen_ok (tb : Nat) (s : TS) (F : List Nat) (w0 : World) (hF : (cTape 5 44 tb (s)).p w0 F) (ok : TOk s) :
    Calls Try.prog 17 #[.pointer (some ⟨tb, 0, none⟩)] w0 fun e w => e = .returned (.int .i64 (s.bs.length : Int)) ∧ Below w0.heap.size w0 w := by
  refine enter (args := [.pointer (some ⟨tb, 0, none⟩)]) Try.func17 rfl Try.ntmps17 rfl ?_
  have H := Sat.start w0
  obtain ⟨A, n, c, hblk, hrow⟩ := cTape_rd hF
  obtain ⟨hk1, hk2, hk3, hk4⟩ := ok
  have hl := hrow.length
  refine cw_seq ?_
  -- region 0 tape.go:81
  refine cw_region (clf [.U]) [0] rfl (by kernel_rfl) (by decide) ?_
  refine TF.u (v := (.int .i64 _)) rfl rfl (pr_assign rfl) ?_
  refine TF.nil (nx_then ?_)
  refine cw_seq ?_
  refine cw_seq ?_
  -- region 1 tape.go:82
  refine cw_region (clf [.U, .U]) [0, 1] rfl (by kernel_rfl) (by decide) ?_
  refine TF.u (v := (.pointer (some ⟨_, 0, none⟩))) rfl rfl (pr_move rfl) ?_
  refine TF.u (v := (.bool _)) rfl rfl (pr_peql Try.underlying23 rfl rfl) ?_
  refine TF.nil (nx_then ?_)
  refine cw_condF (t := _) rfl rfl rfl ?_
  refine cw_skip (nx_then ?_)
  refine cw_seq ?_
  -- region 3 tape.go:85
  refine cw_region (clf [.U, .U, .U, .X, .U, .U]) [0, 1, 2, 3, 4, 5] rfl (by kernel_rfl) (by decide) ?_
  refine TF.u (v := (.pointer (some ⟨_, 0, none⟩))) rfl rfl (pr_move rfl) ?_
  refine TF.u (v := (.pointer (some _))) rfl rfl (pr_nil rfl) ?_
  refine TF.u (v := (.pointer (some ⟨_, 0, none⟩))) rfl rfl (pr_field (o' := 0) Try.underlying44 rfl (Try.ty25.s) (by decide) rfl rfl) ?_
  refine TF.load (v := (.slice _ _ _)) rfl rfl (wantF_none rfl) Try.underlying25 rfl rfl ((hblk.below H.base).at_ rfl) ?_
  refine TF.u (v := (.int .i64 _)) rfl rfl (pr_len rfl Try.underlying25 rfl) ?_
  refine TF.u (v := (.int .i64 _)) rfl rfl (pr_assign rfl) ?_
  refine TF.nil (nx_then ?_)
  refine cw_ret (fin1 (v := (.int .i64 _)) Try.results17 rfl rfl ?_)
  rw [hl]
  exact ⟨rfl, H.base⟩

theorem tsynced_ok (tb : Nat) (s : TS) (F : List Nat) (w0 : World) (hF : (cTape 5 44 tb (s)).p w0 F) (ok : TOk s) :
    Calls Try.prog 15 #[.pointer (some ⟨tb, 0, none⟩)] w0 fun e w => e = .returned (.int .i64 (s.fast : Int)) ∧ Below w0.heap.size w0 w := by
  refine enter (args := [.pointer (some ⟨tb, 0, none⟩)]) Try.func15 rfl Try.ntmps15 rfl ?_
  have H := Sat.start w0
  obtain ⟨A, n, c, hblk, hrow⟩ := cTape_rd hF
  obtain ⟨hk1, hk2, hk3, hk4⟩ := ok
  have hl := hrow.length
  refine cw_seq ?_
  -- region 0 tape.go:89
  refine cw_region (clf [.U]) [0] rfl (by kernel_rfl) (by decide) ?_
  refine TF.u (v := (.int .i64 _)) rfl rfl (pr_assign rfl) ?_
  refine TF.nil (nx_then ?_)
  refine cw_seq ?_
  refine cw_seq ?_
  -- region 1 tape.go:90
  refine cw_region (clf [.U, .U]) [0, 1] rfl (by kernel_rfl) (by decide) ?_
  refine TF.u (v := (.pointer (some ⟨_, 0, none⟩))) rfl rfl (pr_move rfl) ?_
  refine TF.u (v := (.bool _)) rfl rfl (pr_peql Try.underlying23 rfl rfl) ?_
  refine TF.nil (nx_then ?_)
  refine cw_condF (t := _) rfl rfl rfl ?_
  refine cw_skip (nx_then ?_)
  refine cw_seq ?_
  -- region 3 tape.go:93
  refine cw_region (clf [.U, .U, .U, .X, .U]) [0, 1, 2, 3, 4] rfl (by kernel_rfl) (by decide) ?_
  refine TF.u (v := (.pointer (some ⟨_, 0, none⟩))) rfl rfl (pr_move rfl) ?_
  refine TF.u (v := (.pointer (some _))) rfl rfl (pr_nil rfl) ?_
  refine TF.u (v := (.pointer (some ⟨_, 1, none⟩))) rfl rfl (pr_field (o' := 1) Try.underlying44 rfl (Try.ty3.s) (by decide) rfl rfl) ?_
  refine TF.load (v := (.int .i64 _)) rfl rfl (wantF_none rfl) Try.underlying3 rfl rfl ((hblk.below H.base).at_ rfl) ?_
  refine TF.u (v := (.int .i64 _)) rfl rfl (pr_assign rfl) ?_
  refine TF.nil (nx_then ?_)
  refine cw_ret (fin1 (v := (.int .i64 _)) Try.results15 rfl rfl ?_)
  exact ⟨rfl, H.base⟩

theorem tstart_ok (tb : Nat) (s : TS) (F : List Nat) (w0 : World) (hF : (cTape 5 44 tb (s)).p w0 F) (ok : TOk s) :
    Calls Try.prog 23 #[.pointer (some ⟨tb, 0, none⟩)] w0 fun e w => e = .returned (.int .u64 (s.start : Int)) ∧ Below w0.heap.size w0 w := by
  refine enter (args := [.pointer (some ⟨tb, 0, none⟩)]) Try.func23 rfl Try.ntmps23 rfl ?_
  have H := Sat.start w0
  obtain ⟨A, n, c, hblk, hrow⟩ := cTape_rd hF
  obtain ⟨hk1, hk2, hk3, hk4⟩ := ok
  have hl := hrow.length
  refine cw_seq ?_
  -- region 0 tape.go:97
  refine cw_region (clf [.U]) [0] rfl (by kernel_rfl) (by decide) ?_
  refine TF.u (v := (.int .u64 _)) rfl rfl (pr_assign rfl) ?_
  refine TF.nil (nx_then ?_)
  refine cw_seq ?_
  refine cw_seq ?_
  -- region 1 tape.go:98
  refine cw_region (clf [.U, .U]) [0, 1] rfl (by kernel_rfl) (by decide) ?_
  refine TF.u (v := (.pointer (some ⟨_, 0, none⟩))) rfl rfl (pr_move rfl) ?_
  refine TF.u (v := (.bool _)) rfl rfl (pr_peql Try.underlying23 rfl rfl) ?_
  refine TF.nil (nx_then ?_)
  refine cw_condF (t := _) rfl rfl rfl ?_
  refine cw_skip (nx_then ?_)
  refine cw_seq ?_
  -- region 3 tape.go:101
  refine cw_region (clf [.U, .U, .U, .X, .U]) [0, 1, 2, 3, 4] rfl (by kernel_rfl) (by decide) ?_
  refine TF.u (v := (.pointer (some ⟨_, 0, none⟩))) rfl rfl (pr_move rfl) ?_
  refine TF.u (v := (.pointer (some _))) rfl rfl (pr_nil rfl) ?_
  refine TF.u (v := (.pointer (some ⟨_, 3, none⟩))) rfl rfl (pr_field (o' := 3) Try.underlying44 rfl (Try.ty42.s) (by decide) rfl rfl) ?_
  refine TF.load (v := (.int .u64 _)) rfl rfl (wantF_none rfl) Try.underlying42 rfl rfl ((hblk.below H.base).at_ rfl) ?_
  refine TF.u (v := (.int .u64 _)) rfl rfl (pr_assign rfl) ?_
  refine TF.nil (nx_then ?_)
  refine cw_ret (fin1 (v := (.int .u64 _)) Try.results23 rfl rfl ?_)
  exact ⟨rfl, H.base⟩

theorem troom_ok (tb : Nat) (s : TS) (F : List Nat) (w0 : World) (hF : (cTape 5 44 tb (s)).p w0 F) (ok : TOk s) :
    Calls Try.prog 24 #[.pointer (some ⟨tb, 0, none⟩)] w0 fun e w => e = .returned (.int .i64 (s.room : Int)) ∧ Below w0.heap.size w0 w := by
  refine enter (args := [.pointer (some ⟨tb, 0, none⟩)]) Try.func24 rfl Try.ntmps24 rfl ?_
  have H := Sat.start w0
  obtain ⟨A, n, c, hblk, hrow⟩ := cTape_rd hF
  obtain ⟨hk1, hk2, hk3, hk4⟩ := ok
  have hl := hrow.length
  refine cw_seq ?_
  -- region 0 tape.go:105
  refine cw_region (clf [.U]) [0] rfl (by kernel_rfl) (by decide) ?_
  refine TF.u (v := (.int .i64 _)) rfl rfl (pr_assign rfl) ?_
  refine TF.nil (nx_then ?_)
  refine cw_seq ?_
  refine cw_seq ?_
  -- region 1 tape.go:106
  refine cw_region (clf [.U, .U]) [0, 1] rfl (by kernel_rfl) (by decide) ?_
  refine TF.u (v := (.pointer (some ⟨_, 0, none⟩))) rfl rfl (pr_move rfl) ?_
  refine TF.u (v := (.bool _)) rfl rfl (pr_peql Try.underlying23 rfl rfl) ?_
  refine TF.nil (nx_then ?_)
  refine cw_condF (t := _) rfl rfl rfl ?_
  refine cw_skip (nx_then ?_)
  refine cw_seq ?_
  -- region 3 tape.go:109
  refine cw_region (clf [.U, .U, .U, .X, .U]) [0, 1, 2, 3, 4] rfl (by kernel_rfl) (by decide) ?_
  refine TF.u (v := (.pointer (some ⟨_, 0, none⟩))) rfl rfl (pr_move rfl) ?_
  refine TF.u (v := (.pointer (some _))) rfl rfl (pr_nil rfl) ?_
  refine TF.u (v := (.pointer (some ⟨_, 2, none⟩))) rfl rfl (pr_field (o' := 2) Try.underlying44 rfl (Try.ty3.s) (by decide) rfl rfl) ?_
  refine TF.load (v := (.int .i64 _)) rfl rfl (wantF_none rfl) Try.underlying3 rfl rfl ((hblk.below H.base).at_ rfl) ?_
  refine TF.u (v := (.int .i64 _)) rfl rfl (pr_assign rfl) ?_
  refine TF.nil (nx_then ?_)
  refine cw_ret (fin1 (v := (.int .i64 _)) Try.results24 rfl rfl ?_)
  exact ⟨rfl, H.base⟩

theorem tappend_ok (tb : Nat) (s : TS) (F : List Nat) (A2 : Option Addr) (n2 c2 : Nat) (b : List UInt8) (w0 : World) (hF : (cTape 5 44 tb (s)).p w0 F) (ok : TOk s) (hb : RdB w0 A2 n2 c2 b) (hn : n2 ≤ 140737488351232) :
    Calls Try.prog 12 #[.pointer (some ⟨tb, 0, none⟩), .slice A2 n2 c2] w0 fun e w => e = .returned (.int .i64 (tAppend s b).2) ∧ Upd (cTape 5 44 tb ((tAppend s b).1)) F w0 w ∧ TOk ((tAppend s b).1) := by
  refine enter (args := [.pointer (some ⟨tb, 0, none⟩), .slice A2 n2 c2]) Try.func12 rfl Try.ntmps12 rfl ?_
  have hokp := tAppend_ok ok b
  have H0 := Sat.start1 hF
  obtain ⟨⟨A, n, c⟩, H⟩ := H0.unex
  clear H0
  replace H : Sat F w0 w0 [cOwnB 5 A n c s.bs, cBlk tb 44 [.slice A n c, .int .i64 (s.fast : Int), .int .i64 (s.room : Int), .int .u64 (s.start : Int)]] := H.unsep
  obtain ⟨hk1, hk2, hk3, hk4⟩ := ok
  have hl := (H.rdB (k := 0) rfl).length
  have hcap := (H.rdB (k := 0) rfl).cap
  refine cw_seq ?_
  -- region 0 tape.go:18
  refine cw_region (clf [.U]) [0] rfl (by kernel_rfl) (by decide) ?_
  refine TF.u (v := (.int .i64 _)) rfl rfl (pr_assign rfl) ?_
  refine TF.nil (nx_then ?_)
  refine cw_seq ?_
  refine cw_block ?_
  refine cw_seq ?_
  -- region 1 tape.go:20
  refine cw_region (clf [.U, .U, .U]) [0, 1, 2] rfl (by kernel_rfl) (by decide) ?_
  have hl2 := hb.length
  refine TF.u (v := (.pointer (some ⟨_, 0, none⟩))) rfl rfl (pr_move rfl) ?_
  refine TF.u (v := (.bool _)) rfl rfl (pr_peql Try.underlying23 rfl rfl) ?_
  refine TF.u (v := (.bool _)) rfl rfl (pr_assign rfl) ?_
  refine TF.nil (nx_then ?_)
  refine cw_condF (t := _) rfl rfl rfl ?_
  refine cw_seq ?_
  -- region 3 tape.go:22
  refine cw_drawS H Try.wide_ (clf [.U, .U, .U, .U, .U, .R, .U, .U, .U, .R, .U, .U, .U, .U]) [0, 1, 2, 3, 4, 5, 6, 7, 8, 9, 10, 11, 12, 13] (by kernel_rfl) (by kernel_rfl) ?_
  clear H
  intro w hbr H hB
  replace hb := hb.below hbr
  refine TF.u (v := (.slice _ _ _)) rfl rfl (pr_move rfl) ?_
  refine TF.u (v := (.int .i64 _)) rfl rfl (pr_len rfl Try.underlying25 rfl) ?_
  refine TF.u (v := (.pointer (some ⟨_, 0, none⟩))) rfl rfl (pr_move rfl) ?_
  refine TF.u (v := (.pointer (some _))) rfl rfl (pr_nil rfl) ?_
  refine TF.u (v := (.pointer (some ⟨_, 2, none⟩))) rfl rfl (pr_field (o' := 2) Try.underlying44 rfl (Try.ty3.s) (by decide) rfl rfl) ?_
  refine TF.loadr (v := (.int .i64 _)) rfl rfl (wantF_none rfl) Try.underlying3 rfl rfl ((H.blk (k := 1) rfl).atB rfl) ?_
  refine TF.u (v := (.pointer (some ⟨_, 0, none⟩))) rfl rfl (pr_move rfl) ?_
  refine TF.u (v := (.pointer (some _))) rfl rfl (pr_nil rfl) ?_
  refine TF.u (v := (.pointer (some ⟨_, 0, none⟩))) rfl rfl (pr_field (o' := 0) Try.underlying44 rfl (Try.ty25.s) (by decide) rfl rfl) ?_
  refine TF.loadr (v := (.slice _ _ _)) rfl rfl (wantF_none rfl) Try.underlying25 rfl rfl ((H.blk (k := 1) rfl).atB rfl) ?_
  refine TF.u (v := (.int .i64 _)) rfl rfl (pr_len rfl Try.underlying25 rfl) ?_
  refine TF.u (v := (.int .i64 _)) rfl rfl (pr_sub rfl rfl (IntWalk.i64_in _ (by omega))) ?_
  refine TF.u (v := (.bool _)) rfl rfl (pr_gtr rfl rfl) ?_
  refine TF.u (v := (.bool _)) rfl rfl (pr_assign rfl) ?_
  clear hB
  refine TF.nil (nx_then ?_)
  refine cw_cond _ rfl rfl (fun hq2 => ?_) (fun hq2 => ?_)
  ·
    have hp2 := dT hq2
    refine cw_seq ?_
    -- region 4 tape.go:23
    refine cw_region (clf [.U]) [0] rfl (by kernel_rfl) (by decide) ?_
    refine TF.u (v := (.int .i64 _)) rfl rfl (pr_assign rfl) ?_
    refine TF.nil (nx_then ?_)
    refine cw_ret (rt_block (rt_then (fin1 (v := (.int .i64 _)) Try.results12 rfl rfl ?_)))
    rw [tAppend_no (by omega)] at hokp ⊢
    have H9 : Sat F w0 _ [cTape 5 44 tb (s)] := Sat.ex (_, _, _) (H.two (i := 0) (j := 0) rfl rfl).sep
    exact ⟨rfl, H9.toUpd (k := 0) rfl, hokp⟩
  ·
    have hp2 := dF hq2
    refine cw_skip (nx_block (nx_then ?_))
    refine cw_seq ?_
    -- region 5 tape.go:25
    refine cw_region (clf [.U, .U, .U, .U, .X, .U, .X, .U, .U, .X]) [0, 1, 2, 3, 4, 5, 6, 7, 8, 9] rfl (by kernel_rfl) (by decide) ?_
    refine TF.u (v := (.pointer (some ⟨_, 0, none⟩))) rfl rfl (pr_move rfl) ?_
    refine TF.u (v := (.pointer (some ⟨_, 0, none⟩))) rfl rfl (pr_move rfl) ?_
    refine TF.u (v := (.pointer (some _))) rfl rfl (pr_nil rfl) ?_
    refine TF.u (v := (.pointer (some ⟨_, 0, none⟩))) rfl rfl (pr_field (o' := 0) Try.underlying44 rfl (Try.ty25.s) (by decide) rfl rfl) ?_
    refine TF.load (v := (.slice _ _ _)) rfl rfl (wantF_none rfl) Try.underlying25 rfl rfl ((H.blk (k := 1) rfl).at_ rfl) ?_
    refine TF.u (v := (.slice _ _ _)) rfl rfl (pr_move rfl) ?_
    refine TF.append (q := 0) (v := (.slice _ _ _)) H rfl rfl rfl (wantF_none rfl) Try.underlying25 (Try.ty5) rfl Try.underlying25 (.inr ⟨_, rfl⟩) rfl rfl (Src.rdB hb) (by unfold maxLen; first | omega | (simp only [List.length_append, List.length_cons, List.length_nil]; omega)) (by first | omega | (simp only [List.length_append, List.length_cons, List.length_nil]; omega)) ?_
    clear H
    intro Arow_3 crow_3 w ho3 H
    replace H : Sat _ _ _ [_, _] := H
    rw [← u8s_app] at H
    refine TF.u (v := (.pointer (some _))) rfl rfl (pr_nil rfl) ?_
    refine TF.u (v := (.pointer (some ⟨_, 0, none⟩))) rfl rfl (pr_field (o' := 0) Try.underlying44 rfl (Try.ty25.s) (by decide) rfl rfl) ?_
    refine TF.store (v := (.slice _ _ _)) (q := 1) H rfl rfl rfl (wantF_none rfl) (Try.ty25.s) rfl rfl rfl rfl ?_
    clear H
    intro w ho4 H
    replace H : Sat _ _ _ [_, _] := H
    refine TF.nil (nx_then ?_)
    refine cw_seq ?_
    -- region 6 tape.go:26
    refine cw_region (clf [.U]) [0] rfl (by kernel_rfl) (by decide) ?_
    refine TF.u (v := (.int .i64 _)) rfl rfl (pr_assign rfl) ?_
    refine TF.nil (nx_then ?_)
    refine cw_ret (fin1 (v := (.int .i64 _)) Try.results12 rfl rfl ?_)
    rw [tAppend_yes (by omega)] at hokp ⊢
    have H9 : Sat F w0 _ [cTape 5 44 tb (⟨s.bs ++ b, s.fast, s.room, s.start⟩)] := Sat.ex (_, _, _) (H.two (i := 0) (j := 0) rfl rfl).sep
    exact ⟨rfl, H9.toUpd (k := 0) rfl, hokp⟩

theorem tsync_ok (tb : Nat) (s : TS) (F : List Nat)  (w0 : World) (hF : (cTape 5 44 tb (s)).p w0 F) (ok : TOk s)  :
    Calls Try.prog 16 #[.pointer (some ⟨tb, 0, none⟩)] w0 fun e w => e = .returned (.int .i64 0) ∧ Upd (cTape 5 44 tb (tSync s)) F w0 w ∧ TOk (tSync s) := by
  refine enter (args := [.pointer (some ⟨tb, 0, none⟩)]) Try.func16 rfl Try.ntmps16 rfl ?_
  have hokp := tSync_ok ok
  have H0 := Sat.start1 hF
  obtain ⟨⟨A, n, c⟩, H⟩ := H0.unex
  clear H0
  replace H : Sat F w0 w0 [cOwnB 5 A n c s.bs, cBlk tb 44 [.slice A n c, .int .i64 (s.fast : Int), .int .i64 (s.room : Int), .int .u64 (s.start : Int)]] := H.unsep
  obtain ⟨hk1, hk2, hk3, hk4⟩ := ok
  have hl := (H.rdB (k := 0) rfl).length
  have hcap := (H.rdB (k := 0) rfl).cap
  refine cw_seq ?_
  -- region 0 tape.go:30
  refine cw_region (clf [.U]) [0] rfl (by kernel_rfl) (by decide) ?_
  refine TF.u (v := (.int .i64 _)) rfl rfl (pr_assign rfl) ?_
  refine TF.nil (nx_then ?_)
  refine cw_seq ?_
  refine cw_seq ?_
  -- region 1 tape.go:31
  refine cw_region (clf [.U, .U]) [0, 1] rfl (by kernel_rfl) (by decide) ?_
  refine TF.u (v := (.pointer (some ⟨_, 0, none⟩))) rfl rfl (pr_move rfl) ?_
  refine TF.u (v := (.bool _)) rfl rfl (pr_peql Try.underlying23 rfl rfl) ?_
  refine TF.nil (nx_then ?_)
  refine cw_condF (t := _) rfl rfl rfl ?_
  refine cw_skip (nx_then ?_)
  refine cw_seq ?_
  -- region 3 tape.go:34
  refine cw_region (clf [.U, .U, .U, .U, .X, .U, .U, .U, .X]) [0, 1, 2, 3, 4, 5, 6, 7, 8] rfl (by kernel_rfl) (by decide) ?_
  refine TF.u (v := (.pointer (some ⟨_, 0, none⟩))) rfl rfl (pr_move rfl) ?_
  refine TF.u (v := (.pointer (some ⟨_, 0, none⟩))) rfl rfl (pr_move rfl) ?_
  refine TF.u (v := (.pointer (some _))) rfl rfl (pr_nil rfl) ?_
  refine TF.u (v := (.pointer (some ⟨_, 0, none⟩))) rfl rfl (pr_field (o' := 0) Try.underlying44 rfl (Try.ty25.s) (by decide) rfl rfl) ?_
  refine TF.load (v := (.slice _ _ _)) rfl rfl (wantF_none rfl) Try.underlying25 rfl rfl ((H.blk (k := 1) rfl).at_ rfl) ?_
  refine TF.u (v := (.int .i64 _)) rfl rfl (pr_len rfl Try.underlying25 rfl) ?_
  refine TF.u (v := (.pointer (some _))) rfl rfl (pr_nil rfl) ?_
  refine TF.u (v := (.pointer (some ⟨_, 1, none⟩))) rfl rfl (pr_field (o' := 1) Try.underlying44 rfl (Try.ty3.s) (by decide) rfl rfl) ?_
  refine TF.store (v := (.int .i64 _)) (q := 1) H rfl rfl rfl (wantF_none rfl) (Try.ty3.s) rfl rfl rfl rfl ?_
  clear H
  intro w ho1 H
  replace H : Sat _ _ _ [_, _] := H
  refine TF.nil (nx_then ?_)
  refine cw_seq ?_
  -- region 4 tape.go:35
  refine cw_region (clf [.U]) [0] rfl (by kernel_rfl) (by decide) ?_
  refine TF.u (v := (.int .i64 _)) rfl rfl (pr_assign rfl) ?_
  refine TF.nil (nx_then ?_)
  refine cw_ret (fin1 (v := (.int .i64 _)) Try.results16 rfl rfl ?_)
  rw [← hl] at H
  have H9 : Sat F w0 _ [cTape 5 44 tb (tSync s)] := Sat.ex (_, _, _) (H.two (i := 0) (j := 0) rfl rfl).sep
  exact ⟨rfl, H9.toUpd (k := 0) rfl, hokp⟩

theorem tcut_ok (tb : Nat) (s : TS) (F : List Nat) (k : Int) (w0 : World) (hF : (cTape 5 44 tb (s)).p w0 F) (ok : TOk s) (hk5 : -9223372036854775808 ≤ k) (hk6 : k ≤ 9223372036854775807) :
    Calls Try.prog 18 #[.pointer (some ⟨tb, 0, none⟩), .int .i64 k] w0 fun e w => e = .returned (.int .i64 (tCut s k).2) ∧ Upd (cTape 5 44 tb ((tCut s k).1)) F w0 w ∧ TOk ((tCut s k).1) := by
  refine enter (args := [.pointer (some ⟨tb, 0, none⟩), .int .i64 k]) Try.func18 rfl Try.ntmps18 rfl ?_
  have hokp := tCut_ok ok k
  have H0 := Sat.start1 hF
  obtain ⟨⟨A, n, c⟩, H⟩ := H0.unex
  clear H0
  replace H : Sat F w0 w0 [cOwnB 5 A n c s.bs, cBlk tb 44 [.slice A n c, .int .i64 (s.fast : Int), .int .i64 (s.room : Int), .int .u64 (s.start : Int)]] := H.unsep
  obtain ⟨hk1, hk2, hk3, hk4⟩ := ok
  have hl := (H.rdB (k := 0) rfl).length
  have hcap := (H.rdB (k := 0) rfl).cap
  refine cw_seq ?_
  -- region 0 tape.go:39
  refine cw_region (clf [.U]) [0] rfl (by kernel_rfl) (by decide) ?_
  refine TF.u (v := (.int .i64 _)) rfl rfl (pr_assign rfl) ?_
  refine TF.nil (nx_then ?_)
  refine cw_seq ?_
  refine cw_seq ?_
  -- region 1 tape.go:40
  refine cw_region (clf [.U, .U, .U, .U, .U, .U, .U, .U, .U, .U, .U, .X, .U, .U]) [0, 1, 2, 3, 4, 5, 6, 7, 8, 9, 10, 11, 12, 13] rfl (by kernel_rfl) (by decide) ?_
  refine TF.u (v := (.pointer (some ⟨_, 0, none⟩))) rfl rfl (pr_move rfl) ?_
  refine TF.u (v := (.bool _)) rfl rfl (pr_peql Try.underlying23 rfl rfl) ?_
  refine TF.u (v := (.bool _)) rfl rfl (pr_move rfl) ?_
  refine TF.ug (v := (.int .i64 _)) rfl rfl (wantF_yes rfl rfl rfl rfl) (pr_move rfl) ?_
  refine TF.ug (v := (.bool _)) rfl rfl (wantF_yes rfl rfl rfl rfl) (pr_lss rfl rfl) ?_
  refine TF.u (v := (.bool _)) rfl rfl (pr_pickF rfl rfl rfl) ?_
  refine TF.u (v := (.bool _)) rfl rfl (pr_move rfl) ?_
  refine TF.split (dj := 12) rfl (fun hq2 => ?_) (fun hq2 => ?_)
  ·
    have hp2 := dT hq2
    refine TF.skip rfl (wantF_no rfl rfl rfl hq2) ?_
    refine TF.skip rfl (wantF_no rfl rfl rfl hq2) ?_
    refine TF.skip rfl (wantF_no rfl rfl rfl hq2) ?_
    refine TF.skip rfl (wantF_no rfl rfl rfl hq2) ?_
    refine TF.skip rfl (wantF_no rfl rfl rfl hq2) ?_
    refine TF.skip rfl (wantF_no rfl rfl rfl hq2) ?_
    refine TF.u (v := (.bool _)) rfl rfl (pr_pickT rfl hq2 rfl) ?_
    refine TF.nil (nx_then ?_)
    refine cw_condT (t := _) rfl rfl rfl ?_
    refine cw_seq ?_
    -- region 2 tape.go:41
    refine cw_region (clf [.U]) [0] rfl (by kernel_rfl) (by decide) ?_
    refine TF.u (v := (.int .i64 _)) rfl rfl (pr_assign rfl) ?_
    refine TF.nil (nx_then ?_)
    refine cw_ret (rt_then (fin1 (v := (.int .i64 _)) Try.results18 rfl rfl ?_))
    rw [tCut_no (by omega)] at hokp ⊢
    have H9 : Sat F w0 _ [cTape 5 44 tb (s)] := Sat.ex (_, _, _) (H.two (i := 0) (j := 0) rfl rfl).sep
    exact ⟨rfl, H9.toUpd (k := 0) rfl, hokp⟩
  ·
    have hp2 := dF hq2
    refine TF.ug (v := (.int .i64 _)) rfl rfl (wantF_yes rfl rfl rfl hq2) (pr_move rfl) ?_
    refine TF.ug (v := (.pointer (some ⟨_, 0, none⟩))) rfl rfl (wantF_yes rfl rfl rfl hq2) (pr_move rfl) ?_
    refine TF.ug (v := (.pointer (some _))) rfl rfl (wantF_yes rfl rfl rfl hq2) (pr_nil rfl) ?_
    refine TF.ug (v := (.pointer (some ⟨_, 1, none⟩))) rfl rfl (wantF_yes rfl rfl rfl hq2) (pr_field (o' := 1) Try.underlying44 rfl (Try.ty3.s) (by decide) rfl rfl) ?_
    refine TF.load (v := (.int .i64 _)) rfl rfl (wantF_yes rfl rfl rfl hq2) Try.underlying3 rfl rfl ((H.blk (k := 1) rfl).at_ rfl) ?_
    refine TF.ug (v := (.bool _)) rfl rfl (wantF_yes rfl rfl rfl hq2) (pr_gtr rfl rfl) ?_
    refine TF.u (v := (.bool _)) rfl rfl (pr_pickF rfl hq2 rfl) ?_
    refine TF.nil (nx_then ?_)
    refine cw_cond _ rfl rfl (fun hq4 => ?_) (fun hq4 => ?_)
    ·
      have hp4 := dT hq4
      refine cw_seq ?_
      -- region 2 tape.go:41
      refine cw_region (clf [.U]) [0] rfl (by kernel_rfl) (by decide) ?_
      refine TF.u (v := (.int .i64 _)) rfl rfl (pr_assign rfl) ?_
      refine TF.nil (nx_then ?_)
      refine cw_ret (rt_then (fin1 (v := (.int .i64 _)) Try.results18 rfl rfl ?_))
      rw [tCut_no (by omega)] at hokp ⊢
      have H9 : Sat F w0 _ [cTape 5 44 tb (s)] := Sat.ex (_, _, _) (H.two (i := 0) (j := 0) rfl rfl).sep
      exact ⟨rfl, H9.toUpd (k := 0) rfl, hokp⟩
    ·
      have hp4 := dF hq4
      refine cw_skip (nx_then ?_)
      refine cw_seq ?_
      -- region 3 tape.go:43
      refine cw_region (clf [.U, .U, .U, .X, .U, .U, .U, .X, .U]) [0, 1, 2, 3, 4, 5, 6, 7, 8] rfl (by kernel_rfl) (by decide) ?_
      obtain ⟨m, rfl⟩ := Int.eq_ofNat_of_zero_le (show 0 ≤ k by omega)
      refine TF.u (v := (.pointer (some ⟨_, 0, none⟩))) rfl rfl (pr_move rfl) ?_
      refine TF.u (v := (.pointer (some _))) rfl rfl (pr_nil rfl) ?_
      refine TF.u (v := (.pointer (some ⟨_, 0, none⟩))) rfl rfl (pr_field (o' := 0) Try.underlying44 rfl (Try.ty25.s) (by decide) rfl rfl) ?_
      refine TF.load (v := (.slice _ _ _)) rfl rfl (wantF_none rfl) Try.underlying25 rfl rfl ((H.blk (k := 1) rfl).at_ rfl) ?_
      refine TF.u (v := (.int .i64 _)) rfl rfl (pr_len rfl Try.underlying25 rfl) ?_
      refine TF.u (v := (.int .i64 _)) rfl rfl (pr_move rfl) ?_
      refine TF.u (v := (.int .i64 _)) rfl rfl (pr_sub rfl rfl (show _ = ((n - m : Nat) : Int) from (IntWalk.i64_in _ (by omega)).trans (by omega))) ?_
      refine TF.make (nl := n - m) (nc := n - m) (z1 := undef) H rfl (Cx.xx rfl) (wantF_none rfl) Try.underlying25 (Try.ty5) rfl rfl (by omega) (by omega) (by unfold maxLen; omega) ?_
      clear H
      intro bk5 w hltbk5 hb6 H
      rw [made_u8] at H
      refine TF.u (v := (.slice _ _ _)) rfl rfl (pr_assign rfl) ?_
      refine TF.nil (nx_then ?_)
      refine cw_seq ?_
      -- region 4 tape.go:44
      refine cw_region (clf [.U, .U, .U, .U, .X, .U, .U, .X]) [0, 1, 2, 3, 4, 5, 6, 7] rfl (by kernel_rfl) (by decide) ?_
      refine TF.u (v := (.slice _ _ _)) rfl rfl (pr_move rfl) ?_
      refine TF.u (v := (.pointer (some ⟨_, 0, none⟩))) rfl rfl (pr_move rfl) ?_
      refine TF.u (v := (.pointer (some _))) rfl rfl (pr_nil rfl) ?_
      refine TF.u (v := (.pointer (some ⟨_, 0, none⟩))) rfl rfl (pr_field (o' := 0) Try.underlying44 rfl (Try.ty25.s) (by decide) rfl rfl) ?_
      refine TF.load (v := (.slice _ _ _)) rfl rfl (wantF_none rfl) Try.underlying25 rfl rfl ((H.blk (k := 2) rfl).at_ rfl) ?_
      refine TF.u (v := (.int .i64 _)) rfl rfl (pr_move rfl) ?_
      refine TF.u (v := (.slice _ _ _)) rfl rfl (pr_cut (l := m) (h := n) (mm := c) Try.underlying25 (Try.ty5.s) rfl (.inr ⟨_, _, rfl, rfl⟩) (.inl ⟨rfl, rfl, rfl⟩) (.inl ⟨rfl, rfl⟩) (by omega) (by omega) (by omega) (n' := n - m) (c' := c - m) (by omega) (by omega)) ?_
      have hcut7 := RdB.cut (lo := m) (hi := n) (m := c) (n' := n - m) (c' := c - m) (H.rd (k := 1) rfl) (by omega) (by omega) (by omega) (by omega) (by omega) (by omega)
      refine TF.copy (q := 0) (v := (.slice _ _ _)) (m := n - m) (m' := n - m) (news := u8s ((s.bs.drop m).take (n - m))) H rfl rfl rfl (wantF_none rfl) Try.underlying25 (Try.ty5.s) rfl rfl (fun _ => rfl) (Nat.min_self _) (by have := first_rdB (P := Try.prog) hcut7 (Nat.le_refl _); rwa [List.take_take, Nat.min_self] at this) (fun _ => u8s_one) (by simp [u8s_len]; omega) ?_
      clear H
      intro w ho1 H
      replace H : Sat _ _ _ [_, _, _] := H
      rw [List.take_of_length_le (show (s.bs.drop m).length ≤ n - m by simp; omega)] at H
      simp only [List.take_zero, List.nil_append, Nat.zero_add, u8s_len, u8s_drop, List.drop_replicate, List.length_drop, hl, Nat.sub_self, List.replicate_zero, ← u8s_app, List.append_nil] at H
      replace H := H.toOwn (q := 0) (sz := 1) (nl := n - m) (nc := n - m) rfl (by simp [u8s_len]; omega) (Nat.le_refl _) (by unfold maxLen; omega)
      replace H : Sat _ _ _ [_, _, _] := H
      rw [u8s_take, Nat.mul_one, List.take_of_length_le (show (s.bs.drop m).length ≤ n - m by simp; omega)] at H
      
      refine TF.nil (nx_then ?_)
      refine cw_seq ?_
      -- region 5 tape.go:45
      refine cw_region (clf [.U, .U, .U, .U, .X]) [0, 1, 2, 3, 4] rfl (by kernel_rfl) (by decide) ?_
      refine TF.u (v := (.pointer (some ⟨_, 0, none⟩))) rfl rfl (pr_move rfl) ?_
      refine TF.u (v := (.slice _ _ _)) rfl rfl (pr_move rfl) ?_
      refine TF.u (v := (.pointer (some _))) rfl rfl (pr_nil rfl) ?_
      refine TF.u (v := (.pointer (some ⟨_, 0, none⟩))) rfl rfl (pr_field (o' := 0) Try.underlying44 rfl (Try.ty25.s) (by decide) rfl rfl) ?_
      refine TF.store (v := (.slice _ _ _)) (q := 2) H rfl rfl rfl (wantF_none rfl) (Try.ty25.s) rfl rfl rfl rfl ?_
      clear H
      intro w ho8 H
      replace H : Sat _ _ _ [_, _, _] := H
      refine TF.nil (nx_then ?_)
      refine cw_seq ?_
      -- region 6 tape.go:46
      refine cw_region (clf [.U, .U, .U, .X, .U, .U, .U, .U, .X]) [0, 1, 2, 3, 4, 5, 6, 7, 8] rfl (by kernel_rfl) (by decide) ?_
      refine TF.u (v := (.pointer (some ⟨_, 0, none⟩))) rfl rfl (pr_move rfl) ?_
      refine TF.u (v := (.pointer (some _))) rfl rfl (pr_nil rfl) ?_
      refine TF.u (v := (.pointer (some ⟨_, 1, none⟩))) rfl rfl (pr_field (o' := 1) Try.underlying44 rfl (Try.ty3.s) (by decide) rfl rfl) ?_
      refine TF.load (v := (.int .i64 _)) rfl rfl (wantF_none rfl) Try.underlying3 rfl rfl ((H.blk (k := 2) rfl).at_ rfl) ?_
      refine TF.u (v := (.int .i64 _)) rfl rfl (pr_move rfl) ?_
      refine TF.u (v := (.int .i64 _)) rfl rfl (pr_sub rfl rfl (show _ = ((s.fast - m : Nat) : Int) from (IntWalk.i64_in _ (by omega)).trans (by omega))) ?_
      refine TF.u (v := (.pointer (some _))) rfl rfl (pr_nil rfl) ?_
      refine TF.u (v := (.pointer (some ⟨_, 1, none⟩))) rfl rfl (pr_field (o' := 1) Try.underlying44 rfl (Try.ty3.s) (by decide) rfl rfl) ?_
      refine TF.store (v := (.int .i64 _)) (q := 2) H rfl rfl rfl (wantF_none rfl) (Try.ty3.s) rfl rfl rfl rfl ?_
      clear H
      intro w ho9 H
      replace H : Sat _ _ _ [_, _, _] := H
      refine TF.nil (nx_then ?_)
      refine cw_seq ?_
      -- region 7 tape.go:47
      refine cw_region (clf [.U, .U, .U, .X, .U, .U, .U, .U, .U, .X]) [0, 1, 2, 3, 4, 5, 6, 7, 8, 9] rfl (by kernel_rfl) (by decide) ?_
      refine TF.u (v := (.pointer (some ⟨_, 0, none⟩))) rfl rfl (pr_move rfl) ?_
      refine TF.u (v := (.pointer (some _))) rfl rfl (pr_nil rfl) ?_
      refine TF.u (v := (.pointer (some ⟨_, 3, none⟩))) rfl rfl (pr_field (o' := 3) Try.underlying44 rfl (Try.ty42.s) (by decide) rfl rfl) ?_
      refine TF.load (v := (.int .u64 _)) rfl rfl (wantF_none rfl) Try.underlying42 rfl rfl ((H.blk (k := 2) rfl).at_ rfl) ?_
      refine TF.u (v := (.int .i64 _)) rfl rfl (pr_move rfl) ?_
      refine TF.u (v := (.int .u64 _)) rfl rfl (pr_conv Try.underlying3 Try.underlying42 rfl (IntWalk.u64_in _ (by omega))) ?_
      refine TF.u (v := (.int .u64 _)) rfl rfl (pr_add rfl rfl (addu64 _ _)) ?_
      refine TF.u (v := (.pointer (some _))) rfl rfl (pr_nil rfl) ?_
      refine TF.u (v := (.pointer (some ⟨_, 3, none⟩))) rfl rfl (pr_field (o' := 3) Try.underlying44 rfl (Try.ty42.s) (by decide) rfl rfl) ?_
      refine TF.store (v := (.int .u64 _)) (q := 2) H rfl rfl rfl (wantF_none rfl) (Try.ty42.s) rfl rfl rfl rfl ?_
      clear H
      intro w ho10 H
      replace H : Sat _ _ _ [_, _, _] := H
      refine TF.nil (nx_then ?_)
      refine cw_seq ?_
      -- region 8 tape.go:48
      refine cw_region (clf [.U]) [0] rfl (by kernel_rfl) (by decide) ?_
      refine TF.u (v := (.int .i64 _)) rfl rfl (pr_assign rfl) ?_
      refine TF.nil (nx_then ?_)
      refine cw_ret (fin1 (v := (.int .i64 _)) Try.results18 rfl rfl ?_)
      rw [tCut_yes (by omega)] at hokp ⊢
      have H9 : Sat F w0 _ [cTape 5 44 tb (⟨s.bs.drop m, s.fast - m, s.room, (s.start + m) % 18446744073709551616⟩)] := Sat.ex (_, _, _) (H.two (i := 0) (j := 1) rfl rfl).sep
      exact ⟨rfl, H9.toUpd (k := 0) rfl, hokp⟩

theorem tchop_ok (tb : Nat) (s : TS) (F : List Nat) (k : Int) (w0 : World) (hF : (cTape 5 44 tb (s)).p w0 F) (ok : TOk s) (hk5 : -9223372036854775808 ≤ k) (hk6 : k ≤ 9223372036854775807) :
    Calls Try.prog 19 #[.pointer (some ⟨tb, 0, none⟩), .int .i64 k] w0 fun e w => e = .returned (.int .i64 (tChop s k).2) ∧ Upd (cTape 5 44 tb ((tChop s k).1)) F w0 w ∧ TOk ((tChop s k).1) := by
  refine enter (args := [.pointer (some ⟨tb, 0, none⟩), .int .i64 k]) Try.func19 rfl Try.ntmps19 rfl ?_
  have hokp := tChop_ok ok k
  have H0 := Sat.start1 hF
  obtain ⟨⟨A, n, c⟩, H⟩ := H0.unex
  clear H0
  replace H : Sat F w0 w0 [cOwnB 5 A n c s.bs, cBlk tb 44 [.slice A n c, .int .i64 (s.fast : Int), .int .i64 (s.room : Int), .int .u64 (s.start : Int)]] := H.unsep
  obtain ⟨hk1, hk2, hk3, hk4⟩ := ok
  have hl := (H.rdB (k := 0) rfl).length
  have hcap := (H.rdB (k := 0) rfl).cap
  refine cw_seq ?_
  -- region 0 tape.go:52
  refine cw_region (clf [.U]) [0] rfl (by kernel_rfl) (by decide) ?_
  refine TF.u (v := (.int .i64 _)) rfl rfl (pr_assign rfl) ?_
  refine TF.nil (nx_then ?_)
  refine cw_seq ?_
  refine cw_seq ?_
  -- region 1 tape.go:53
  refine cw_region (clf [.U, .U, .U, .U, .U, .U, .U, .U, .U, .U, .U, .X, .U, .U, .U]) [0, 1, 2, 3, 4, 5, 6, 7, 8, 9, 10, 11, 12, 13, 14] rfl (by kernel_rfl) (by decide) ?_
  refine TF.u (v := (.pointer (some ⟨_, 0, none⟩))) rfl rfl (pr_move rfl) ?_
  refine TF.u (v := (.bool _)) rfl rfl (pr_peql Try.underlying23 rfl rfl) ?_
  refine TF.u (v := (.bool _)) rfl rfl (pr_move rfl) ?_
  refine TF.ug (v := (.int .i64 _)) rfl rfl (wantF_yes rfl rfl rfl rfl) (pr_move rfl) ?_
  refine TF.ug (v := (.bool _)) rfl rfl (wantF_yes rfl rfl rfl rfl) (pr_lss rfl rfl) ?_
  refine TF.u (v := (.bool _)) rfl rfl (pr_pickF rfl rfl rfl) ?_
  refine TF.u (v := (.bool _)) rfl rfl (pr_move rfl) ?_
  refine TF.split (dj := 11) rfl (fun hq2 => ?_) (fun hq2 => ?_)
  ·
    have hp2 := dT hq2
    refine TF.skip rfl (wantF_no rfl rfl rfl hq2) ?_
    refine TF.skip rfl (wantF_no rfl rfl rfl hq2) ?_
    refine TF.skip rfl (wantF_no rfl rfl rfl hq2) ?_
    refine TF.skip rfl (wantF_no rfl rfl rfl hq2) ?_
    refine TF.skip rfl (wantF_no rfl rfl rfl hq2) ?_
    refine TF.skip rfl (wantF_no rfl rfl rfl hq2) ?_
    refine TF.skip rfl (wantF_no rfl rfl rfl hq2) ?_
    refine TF.u (v := (.bool _)) rfl rfl (pr_pickT rfl hq2 rfl) ?_
    refine TF.nil (nx_then ?_)
    refine cw_condT (t := _) rfl rfl rfl ?_
    refine cw_seq ?_
    -- region 2 tape.go:54
    refine cw_region (clf [.U]) [0] rfl (by kernel_rfl) (by decide) ?_
    refine TF.u (v := (.int .i64 _)) rfl rfl (pr_assign rfl) ?_
    refine TF.nil (nx_then ?_)
    refine cw_ret (rt_then (fin1 (v := (.int .i64 _)) Try.results19 rfl rfl ?_))
    rw [tChop_no (by omega)] at hokp ⊢
    have H9 : Sat F w0 _ [cTape 5 44 tb (s)] := Sat.ex (_, _, _) (H.two (i := 0) (j := 0) rfl rfl).sep
    exact ⟨rfl, H9.toUpd (k := 0) rfl, hokp⟩
  ·
    have hp2 := dF hq2
    refine TF.ug (v := (.int .i64 _)) rfl rfl (wantF_yes rfl rfl rfl hq2) (pr_move rfl) ?_
    refine TF.ug (v := (.pointer (some ⟨_, 0, none⟩))) rfl rfl (wantF_yes rfl rfl rfl hq2) (pr_move rfl) ?_
    refine TF.ug (v := (.pointer (some _))) rfl rfl (wantF_yes rfl rfl rfl hq2) (pr_nil rfl) ?_
    refine TF.ug (v := (.pointer (some ⟨_, 0, none⟩))) rfl rfl (wantF_yes rfl rfl rfl hq2) (pr_field (o' := 0) Try.underlying44 rfl (Try.ty25.s) (by decide) rfl rfl) ?_
    refine TF.load (v := (.slice _ _ _)) rfl rfl (wantF_yes rfl rfl rfl hq2) Try.underlying25 rfl rfl ((H.blk (k := 1) rfl).at_ rfl) ?_
    refine TF.ug (v := (.int .i64 _)) rfl rfl (wantF_yes rfl rfl rfl hq2) (pr_len rfl Try.underlying25 rfl) ?_
    refine TF.ug (v := (.bool _)) rfl rfl (wantF_yes rfl rfl rfl hq2) (pr_gtr rfl rfl) ?_
    refine TF.u (v := (.bool _)) rfl rfl (pr_pickF rfl hq2 rfl) ?_
    refine TF.nil (nx_then ?_)
    refine cw_cond _ rfl rfl (fun hq4 => ?_) (fun hq4 => ?_)
    ·
      have hp4 := dT hq4
      refine cw_seq ?_
      -- region 2 tape.go:54
      refine cw_region (clf [.U]) [0] rfl (by kernel_rfl) (by decide) ?_
      refine TF.u (v := (.int .i64 _)) rfl rfl (pr_assign rfl) ?_
      refine TF.nil (nx_then ?_)
      refine cw_ret (rt_then (fin1 (v := (.int .i64 _)) Try.results19 rfl rfl ?_))
      rw [tChop_no (by omega)] at hokp ⊢
      have H9 : Sat F w0 _ [cTape 5 44 tb (s)] := Sat.ex (_, _, _) (H.two (i := 0) (j := 0) rfl rfl).sep
      exact ⟨rfl, H9.toUpd (k := 0) rfl, hokp⟩
    ·
      have hp4 := dF hq4
      refine cw_skip (nx_then ?_)
      refine cw_seq ?_
      -- region 3 tape.go:56
      refine cw_region (clf [.U, .U, .U, .U, .X, .U, .U, .U, .U, .X]) [0, 1, 2, 3, 4, 5, 6, 7, 8, 9] rfl (by kernel_rfl) (by decide) ?_
      obtain ⟨m, rfl⟩ := Int.eq_ofNat_of_zero_le (show 0 ≤ k by omega)
      refine TF.u (v := (.pointer (some ⟨_, 0, none⟩))) rfl rfl (pr_move rfl) ?_
      refine TF.u (v := (.pointer (some ⟨_, 0, none⟩))) rfl rfl (pr_move rfl) ?_
      refine TF.u (v := (.pointer (some _))) rfl rfl (pr_nil rfl) ?_
      refine TF.u (v := (.pointer (some ⟨_, 0, none⟩))) rfl rfl (pr_field (o' := 0) Try.underlying44 rfl (Try.ty25.s) (by decide) rfl rfl) ?_
      refine TF.load (v := (.slice _ _ _)) rfl rfl (wantF_none rfl) Try.underlying25 rfl rfl ((H.blk (k := 1) rfl).at_ rfl) ?_
      refine TF.u (v := (.int .i64 _)) rfl rfl (pr_move rfl) ?_
      refine TF.u (v := (.slice _ _ _)) rfl rfl (pr_cut (l := 0) (h := m) (mm := c) Try.underlying25 (Try.ty5.s) rfl (.inl ⟨rfl, rfl⟩) (.inr ⟨_, _, rfl, rfl⟩) (.inl ⟨rfl, rfl⟩) (by omega) (by omega) (by omega) (n' := m) (c' := c) (by omega) (by omega)) ?_
      rw [cutA_zero]
      replace H := H.chop (q := 0) (k := m) rfl (by omega)
      replace H : Sat _ _ _ [_, _] := H
      rw [Nat.mul_one, u8s_take] at H
      refine TF.u (v := (.pointer (some _))) rfl rfl (pr_nil rfl) ?_
      refine TF.u (v := (.pointer (some ⟨_, 0, none⟩))) rfl rfl (pr_field (o' := 0) Try.underlying44 rfl (Try.ty25.s) (by decide) rfl rfl) ?_
      refine TF.store (v := (.slice _ _ _)) (q := 1) H rfl rfl rfl (wantF_none rfl) (Try.ty25.s) rfl rfl rfl rfl ?_
      clear H
      intro w ho5 H
      replace H : Sat _ _ _ [_, _] := H
      refine TF.nil (nx_then ?_)
      refine cw_seq ?_
      -- region 4 tape.go:57
      refine cw_region (clf [.U, .U, .U, .U, .X, .U, .U, .U, .U, .X]) [0, 1, 2, 3, 4, 5, 6, 7, 8, 9] rfl (by kernel_rfl) (by decide) ?_
      refine TF.u (v := (.pointer (some ⟨_, 0, none⟩))) rfl rfl (pr_move rfl) ?_
      refine TF.u (v := (.pointer (some ⟨_, 0, none⟩))) rfl rfl (pr_move rfl) ?_
      refine TF.u (v := (.pointer (some _))) rfl rfl (pr_nil rfl) ?_
      refine TF.u (v := (.pointer (some ⟨_, 1, none⟩))) rfl rfl (pr_field (o' := 1) Try.underlying44 rfl (Try.ty3.s) (by decide) rfl rfl) ?_
      refine TF.load (v := (.int .i64 _)) rfl rfl (wantF_none rfl) Try.underlying3 rfl rfl ((H.blk (k := 1) rfl).at_ rfl) ?_
      refine TF.u (v := (.int .i64 _)) rfl rfl (pr_move rfl) ?_
      refine TF.u (v := (.int .i64 _)) rfl rfl (pr_min2 rfl rfl (show _ = ((min s.fast m : Nat) : Int) by omega)) ?_
      refine TF.u (v := (.pointer (some _))) rfl rfl (pr_nil rfl) ?_
      refine TF.u (v := (.pointer (some ⟨_, 1, none⟩))) rfl rfl (pr_field (o' := 1) Try.underlying44 rfl (Try.ty3.s) (by decide) rfl rfl) ?_
      refine TF.store (v := (.int .i64 _)) (q := 1) H rfl rfl rfl (wantF_none rfl) (Try.ty3.s) rfl rfl rfl rfl ?_
      clear H
      intro w ho6 H
      replace H : Sat _ _ _ [_, _] := H
      refine TF.nil (nx_then ?_)
      refine cw_seq ?_
      -- region 5 tape.go:58
      refine cw_region (clf [.U]) [0] rfl (by kernel_rfl) (by decide) ?_
      refine TF.u (v := (.int .i64 _)) rfl rfl (pr_assign rfl) ?_
      refine TF.nil (nx_then ?_)
      refine cw_ret (fin1 (v := (.int .i64 _)) Try.results19 rfl rfl ?_)
      rw [tChop_yes (by omega)] at hokp ⊢
      have H9 : Sat F w0 _ [cTape 5 44 tb (⟨s.bs.take m, min s.fast m, s.room, s.start⟩)] := Sat.ex (_, _, _) (H.two (i := 0) (j := 0) rfl rfl).sep
      exact ⟨rfl, H9.toUpd (k := 0) rfl, hokp⟩

theorem tcrash_ok (tb : Nat) (s : TS) (F : List Nat) (k : Int) (w0 : World) (hF : (cTape 5 44 tb (s)).p w0 F) (ok : TOk s) (hk5 : -9223372036854775808 ≤ k) (hk6 : k ≤ 9223372036854775807) :
    Calls Try.prog 14 #[.pointer (some ⟨tb, 0, none⟩), .int .i64 k] w0 fun e w => e = .returned (.tuple #[]) ∧ Upd (cTape 5 44 tb (tCrash s k)) F w0 w ∧ TOk (tCrash s k) := by
  refine enter (args := [.pointer (some ⟨tb, 0, none⟩), .int .i64 k]) Try.func14 rfl Try.ntmps14 rfl ?_
  have hokp := tCrash_ok ok k
  have H0 := Sat.start1 hF
  obtain ⟨⟨A, n, c⟩, H⟩ := H0.unex
  clear H0
  replace H : Sat F w0 w0 [cOwnB 5 A n c s.bs, cBlk tb 44 [.slice A n c, .int .i64 (s.fast : Int), .int .i64 (s.room : Int), .int .u64 (s.start : Int)]] := H.unsep
  obtain ⟨hk1, hk2, hk3, hk4⟩ := ok
  have hl := (H.rdB (k := 0) rfl).length
  have hcap := (H.rdB (k := 0) rfl).cap
  refine cw_seq ?_
  refine cw_seq ?_
  -- region 0 tape.go:63
  refine cw_region (clf [.U, .U]) [0, 1] rfl (by kernel_rfl) (by decide) ?_
  refine TF.u (v := (.pointer (some ⟨_, 0, none⟩))) rfl rfl (pr_move rfl) ?_
  refine TF.u (v := (.bool _)) rfl rfl (pr_peql Try.underlying23 rfl rfl) ?_
  refine TF.nil (nx_then ?_)
  refine cw_condF (t := _) rfl rfl rfl ?_
  refine cw_skip (nx_then ?_)
  refine cw_seq ?_
  -- region 1 tape.go:66
  refine cw_drawS H Try.wide_ (clf [.U, .U, .U, .R, .U, .U, .U, .U, .R, .U, .U]) [0, 1, 2, 3, 4, 5, 6, 7, 8, 9, 10] (by kernel_rfl) (by kernel_rfl) ?_
  clear H
  intro w hbr H hB
  refine TF.u (v := (.pointer (some ⟨_, 0, none⟩))) rfl rfl (pr_move rfl) ?_
  refine TF.u (v := (.pointer (some _))) rfl rfl (pr_nil rfl) ?_
  refine TF.u (v := (.pointer (some ⟨_, 0, none⟩))) rfl rfl (pr_field (o' := 0) Try.underlying44 rfl (Try.ty25.s) (by decide) rfl rfl) ?_
  refine TF.loadr (v := (.slice _ _ _)) rfl rfl (wantF_none rfl) Try.underlying25 rfl rfl ((H.blk (k := 1) rfl).atB rfl) ?_
  refine TF.u (v := (.int .i64 _)) rfl rfl (pr_len rfl Try.underlying25 rfl) ?_
  refine TF.u (v := (.pointer (some ⟨_, 0, none⟩))) rfl rfl (pr_move rfl) ?_
  refine TF.u (v := (.pointer (some _))) rfl rfl (pr_nil rfl) ?_
  refine TF.u (v := (.pointer (some ⟨_, 1, none⟩))) rfl rfl (pr_field (o' := 1) Try.underlying44 rfl (Try.ty3.s) (by decide) rfl rfl) ?_
  refine TF.loadr (v := (.int .i64 _)) rfl rfl (wantF_none rfl) Try.underlying3 rfl rfl ((H.blk (k := 1) rfl).atB rfl) ?_
  refine TF.u (v := (.int .i64 _)) rfl rfl (pr_sub rfl rfl (IntWalk.i64_in _ (by omega))) ?_
  refine TF.u (v := (.int .i64 _)) rfl rfl (pr_assign rfl) ?_
  clear hB
  refine TF.nil (nx_then ?_)
  refine cw_seq ?_
  -- region 2 tape.go:67
  refine cw_drawS H Try.wide_ (clf [.U, .U, .U, .U, .R, .U, .U, .U, .R, .U, .U, .U, .U, .U, .U, .U, .U, .X]) [0, 1, 2, 3, 4, 5, 6, 7, 8, 9, 10, 11, 12, 13, 14, 15, 16, 17] (by kernel_rfl) (by kernel_rfl) ?_
  clear H
  intro w hbr H hB
  have hle := tLeft_le ⟨hk1, hk2, hk3, hk4⟩ k
  refine TF.u (v := (.pointer (some ⟨_, 0, none⟩))) rfl rfl (pr_move rfl) ?_
  refine TF.u (v := (.pointer (some ⟨_, 0, none⟩))) rfl rfl (pr_move rfl) ?_
  refine TF.u (v := (.pointer (some _))) rfl rfl (pr_nil rfl) ?_
  refine TF.u (v := (.pointer (some ⟨_, 0, none⟩))) rfl rfl (pr_field (o' := 0) Try.underlying44 rfl (Try.ty25.s) (by decide) rfl rfl) ?_
  refine TF.loadr (v := (.slice _ _ _)) rfl rfl (wantF_none rfl) Try.underlying25 rfl rfl ((H.blk (k := 1) rfl).atB rfl) ?_
  refine TF.u (v := (.pointer (some ⟨_, 0, none⟩))) rfl rfl (pr_move rfl) ?_
  refine TF.u (v := (.pointer (some _))) rfl rfl (pr_nil rfl) ?_
  refine TF.u (v := (.pointer (some ⟨_, 1, none⟩))) rfl rfl (pr_field (o' := 1) Try.underlying44 rfl (Try.ty3.s) (by decide) rfl rfl) ?_
  refine TF.loadr (v := (.int .i64 _)) rfl rfl (wantF_none rfl) Try.underlying3 rfl rfl ((H.blk (k := 1) rfl).atB rfl) ?_
  refine TF.u (v := (.int .i64 _)) rfl rfl (pr_move rfl) ?_
  refine TF.u (v := (.int .i64 _)) rfl rfl (pr_move rfl) ?_
  refine TF.u (v := (.int .i64 _)) rfl rfl (pr_min2 rfl rfl rfl) ?_
  refine TF.u (v := (.int .i64 _)) rfl rfl (pr_max2 rfl rfl rfl) ?_
  refine TF.u (v := (.int .i64 _)) rfl rfl (pr_add rfl rfl (show _ = ((tLeft s k : Nat) : Int) from (IntWalk.i64_in _ (by omega)).trans (by unfold tLeft; omega))) ?_
  refine TF.u (v := (.slice _ _ _)) rfl rfl (pr_cut (l := 0) (h := tLeft s k) (mm := c) Try.underlying25 (Try.ty5.s) rfl (.inl ⟨rfl, rfl⟩) (.inr ⟨_, _, rfl, rfl⟩) (.inl ⟨rfl, rfl⟩) (by omega) (by omega) (by omega) (n' := tLeft s k) (c' := c) (by omega) (by omega)) ?_
  rw [cutA_zero]
  replace H := H.chop (q := 0) (k := tLeft s k) rfl (by omega)
  replace H : Sat _ _ _ [_, _] := H
  rw [Nat.mul_one, u8s_take] at H
  refine TF.u (v := (.pointer (some _))) rfl rfl (pr_nil rfl) ?_
  refine TF.u (v := (.pointer (some ⟨_, 0, none⟩))) rfl rfl (pr_field (o' := 0) Try.underlying44 rfl (Try.ty25.s) (by decide) rfl rfl) ?_
  refine TF.store (v := (.slice _ _ _)) (q := 1) H rfl rfl rfl (wantF_none rfl) (Try.ty25.s) rfl rfl rfl rfl ?_
  clear H
  intro w ho1 H
  replace H : Sat _ _ _ [_, _] := H
  clear hB
  refine TF.nil (nx_then ?_)
  -- region 3 tape.go:68
  refine cw_region (clf [.U, .U, .U, .U, .X, .U, .U, .U, .X]) [0, 1, 2, 3, 4, 5, 6, 7, 8] rfl (by kernel_rfl) (by decide) ?_
  refine TF.u (v := (.pointer (some ⟨_, 0, none⟩))) rfl rfl (pr_move rfl) ?_
  refine TF.u (v := (.pointer (some ⟨_, 0, none⟩))) rfl rfl (pr_move rfl) ?_
  refine TF.u (v := (.pointer (some _))) rfl rfl (pr_nil rfl) ?_
  refine TF.u (v := (.pointer (some ⟨_, 0, none⟩))) rfl rfl (pr_field (o' := 0) Try.underlying44 rfl (Try.ty25.s) (by decide) rfl rfl) ?_
  refine TF.load (v := (.slice _ _ _)) rfl rfl (wantF_none rfl) Try.underlying25 rfl rfl ((H.blk (k := 1) rfl).at_ rfl) ?_
  refine TF.u (v := (.int .i64 _)) rfl rfl (pr_len rfl Try.underlying25 rfl) ?_
  refine TF.u (v := (.pointer (some _))) rfl rfl (pr_nil rfl) ?_
  refine TF.u (v := (.pointer (some ⟨_, 1, none⟩))) rfl rfl (pr_field (o' := 1) Try.underlying44 rfl (Try.ty3.s) (by decide) rfl rfl) ?_
  refine TF.store (v := (.int .i64 _)) (q := 1) H rfl rfl rfl (wantF_none rfl) (Try.ty3.s) rfl rfl rfl rfl ?_
  clear H
  intro w ho2 H
  replace H : Sat _ _ _ [_, _] := H
  refine TF.nil (fin0n Try.results14 ?_)
  have H9 : Sat F w0 _ [cTape 5 44 tb (tCrash s k)] := Sat.ex (_, _, _) (H.two (i := 0) (j := 0) rfl rfl).sep
  exact ⟨rfl, H9.toUpd (k := 0) rfl, hokp⟩

theorem tbytes_ok (tb : Nat) (s : TS) (F : List Nat) (w0 : World) (hF : (cTape 5 44 tb (s)).p w0 F) (ok : TOk s) :
    Calls Try.prog 13 #[.pointer (some ⟨tb, 0, none⟩)] w0 fun e w => ∃ A1 n1 c1, e = .returned (.slice A1 n1 c1) ∧ NewB w0 w 5 A1 n1 c1 s.bs := by
  refine enter (args := [.pointer (some ⟨tb, 0, none⟩)]) Try.func13 rfl Try.ntmps13 rfl ?_
  have H := Sat.start w0
  obtain ⟨A, n, c, hblk, hrow⟩ := cTape_rd hF
  obtain ⟨hk1, hk2, hk3, hk4⟩ := ok
  have hl := hrow.length
  refine cw_seq ?_
  -- region 0 tape.go:72
  refine cw_region (clf [.U]) [0] rfl (by kernel_rfl) (by decide) ?_
  refine TF.u (v := (.slice _ _ _)) rfl rfl (pr_assign rfl) ?_
  refine TF.nil (nx_then ?_)
  refine cw_seq ?_
  -- region 1 tape.go:73
  refine cw_region (clf [.U, .X, .X, .U]) [0, 1, 2, 3] rfl (by kernel_rfl) (by decide) ?_
  refine TF.u (v := (.pointer (some ⟨_, 0, none⟩))) rfl rfl (pr_move rfl) ?_
  refine TF.call (args := [(.pointer (some ⟨_, 0, none⟩))]) Try.fn17 rfl rfl (wantF_none rfl) rfl (tlen_ok _ _ _ _ (Chk.below _ hF H.base) ⟨hk1, hk2, hk3, hk4⟩) ?_
  rintro e_ w ⟨rfl, hb1⟩
  refine ⟨_, rfl, ?_⟩
  replace H := H.below hb1
  refine TF.make (nl := n) (nc := n) (z1 := undef) H rfl (Cx.xx rfl) (wantF_none rfl) Try.underlying25 (Try.ty5) (by rw [hl]; rfl) (by rw [hl]; rfl) (by omega) (by omega) (by unfold maxLen; omega) ?_
  clear H
  intro bk2 w hltbk2 hb3 H
  rw [made_u8] at H
  refine TF.u (v := (.slice _ _ _)) rfl rfl (pr_assign rfl) ?_
  refine TF.nil (nx_then ?_)
  refine cw_seq ?_
  refine cw_seq ?_
  -- region 2 tape.go:74
  refine cw_region (clf [.U, .U]) [0, 1] rfl (by kernel_rfl) (by decide) ?_
  refine TF.u (v := (.pointer (some ⟨_, 0, none⟩))) rfl rfl (pr_move rfl) ?_
  refine TF.u (v := (.bool _)) rfl rfl (pr_pneq Try.underlying23 rfl rfl) ?_
  refine TF.nil (nx_then ?_)
  refine cw_condT (t := _) rfl rfl rfl ?_
  -- region 3 tape.go:75
  refine cw_region (clf [.U, .U, .U, .U, .X, .X]) [0, 1, 2, 3, 4, 5] rfl (by kernel_rfl) (by decide) ?_
  refine TF.u (v := (.slice _ _ _)) rfl rfl (pr_move rfl) ?_
  refine TF.u (v := (.pointer (some ⟨_, 0, none⟩))) rfl rfl (pr_move rfl) ?_
  refine TF.u (v := (.pointer (some _))) rfl rfl (pr_nil rfl) ?_
  refine TF.u (v := (.pointer (some ⟨_, 0, none⟩))) rfl rfl (pr_field (o' := 0) Try.underlying44 rfl (Try.ty25.s) (by decide) rfl rfl) ?_
  refine TF.load (v := (.slice _ _ _)) rfl rfl (wantF_none rfl) Try.underlying25 rfl rfl ((hblk.below H.base).at_ rfl) ?_
  refine TF.copy (q := 0) (v := (.slice _ _ _)) (m := n) (m' := n) (news := u8s (s.bs.take n)) H rfl rfl rfl (wantF_none rfl) Try.underlying25 (Try.ty5.s) rfl rfl (fun _ => rfl) (by omega) (first_rdB (hrow.below H.base) (Nat.le_refl _)) (fun _ => u8s_one) (by simp [u8s_len]; omega) ?_
  clear H
  intro w ho1 H
  replace H : Sat _ _ _ [_] := H
  rw [List.take_of_length_le (Nat.le_of_eq hl)] at H
  simp only [List.take_zero, List.nil_append, Nat.zero_add, u8s_len, u8s_drop, List.drop_replicate, hl, Nat.sub_self, List.replicate_zero, ← u8s_app, List.append_nil] at H
  replace H := H.toOwn (q := 0) (sz := 1) (nl := n) (nc := n) rfl (by simp [u8s_len]; omega) (Nat.le_refl _) (by unfold maxLen; omega)
  replace H : Sat _ _ _ [_] := H
  rw [u8s_take, Nat.mul_one, List.take_of_length_le (Nat.le_of_eq hl)] at H
  refine TF.nil (nx_then ?_)
  refine cw_seq ?_
  -- region 4 tape.go:77
  refine cw_region (clf [.U, .U]) [0, 1] rfl (by kernel_rfl) (by decide) ?_
  refine TF.u (v := (.slice _ _ _)) rfl rfl (pr_move rfl) ?_
  refine TF.u (v := (.slice _ _ _)) rfl rfl (pr_assign rfl) ?_
  refine TF.nil (nx_then ?_)
  refine cw_ret (fin1 (v := (.slice _ _ _)) Try.results13 rfl rfl ?_)
  exact ⟨_, _, _, rfl, H.toNew (k := 0) rfl⟩

theorem tnew_ok (room : Int) (w0 : World) (h1 : -9223372036854775808 ≤ room) (h2 : room ≤ 9223372036854775807) :
    Calls Try.prog 11 #[.int .i64 room] w0 fun e w => ∃ tb, e = .returned (.pointer (some ⟨tb, 0, none⟩)) ∧ NewC (cTape 5 44 tb (tNew room)) w0 w ∧ TOk (tNew room) := by
  refine enter (args := [.int .i64 room]) Try.func11 rfl Try.ntmps11 rfl ?_
  have H := Sat.start w0
  refine cw_seq ?_
  -- region 0 tape.go:15
  refine cw_region (clf [.U]) [0] rfl (by kernel_rfl) (by decide) ?_
  refine TF.u (v := (.pointer _)) rfl rfl (pr_assign rfl) ?_
  refine TF.nil (nx_then ?_)
  refine cw_seq ?_
  -- region 1 tape.go:15
  refine cw_region (clf [.U, .U, .U, .U, .X, .U]) [0, 1, 2, 3, 4, 5] rfl (by kernel_rfl) (by decide) ?_
  refine TF.u (v := (.int .i64 _)) rfl rfl (pr_move rfl) ?_
  refine TF.u (v := (.int .i64 _)) rfl rfl (pr_min2 rfl rfl rfl) ?_
  refine TF.u (v := (.int .i64 _)) rfl rfl (pr_max2 rfl rfl (show _ = (((tNew room).room : Nat) : Int) by simp only [tNew]; omega)) ?_
  refine TF.u (v := (.agg ⟨[(.slice none 0 0), (.int .i64 0), (.int .i64 _), (.int .u64 0)]⟩)) rfl rfl (pr_build (cs := [(.slice none 0 0), (.int .i64 0), (.int .i64 _), (.int .u64 0)]) Try.bld44 rfl rfl) ?_
  refine TF.box (v := (.agg ⟨[_, _, _, _]⟩)) H rfl (Cx.xx rfl) (wantF_none rfl) rfl rfl ?_
  clear H
  intro bk1 w hltbk1 hb2 H
  refine TF.u (v := (.pointer (some ⟨_, 0, none⟩))) rfl rfl (pr_assign rfl) ?_
  refine TF.nil (nx_then ?_)
  refine cw_ret (fin1 (v := (.pointer (some ⟨_, 0, none⟩))) Try.results11 rfl rfl ?_)
  replace H := H.newS (NewS.nil _ 5 1)
  have H9 : Sat [] w0 _ [cTape 5 44 bk1 (tNew room)] := Sat.ex (none, 0, 0) (H.two (i := 0) (j := 0) rfl rfl).sep
  exact ⟨_, rfl, H9.toNewC (k := 0) rfl, tNew_ok _⟩

theorem tlen_nil  (w0 : World) :
    Calls Try.prog 17 #[.pointer none] w0 fun e w => e = .returned (.int .i64 0) ∧ Below w0.heap.size w0 w := by
  refine enter (args := [.pointer none]) Try.func17 rfl Try.ntmps17 rfl ?_
  have H := Sat.start w0
  refine cw_seq ?_
  -- region 0 tape.go:81
  refine cw_region (clf [.U]) [0] rfl (by kernel_rfl) (by decide) ?_
  refine TF.u (v := (.int .i64 _)) rfl rfl (pr_assign rfl) ?_
  refine TF.nil (nx_then ?_)
  refine cw_seq ?_
  refine cw_seq ?_
  -- region 1 tape.go:82
  refine cw_region (clf [.U, .U]) [0, 1] rfl (by kernel_rfl) (by decide) ?_
  refine TF.u (v := (.pointer none)) rfl rfl (pr_move rfl) ?_
  refine TF.u (v := (.bool _)) rfl rfl (pr_peql Try.underlying23 rfl rfl) ?_
  refine TF.nil (nx_then ?_)
  refine cw_condT (t := _) rfl rfl rfl ?_
  refine cw_seq ?_
  -- region 2 tape.go:83
  refine cw_region (clf [.U]) [0] rfl (by kernel_rfl) (by decide) ?_
  refine TF.u (v := (.int .i64 _)) rfl rfl (pr_assign rfl) ?_
  refine TF.nil (nx_then ?_)
  refine cw_ret (rt_then (fin1 (v := (.int .i64 _)) Try.results17 rfl rfl ?_))
  exact ⟨rfl, H.base⟩

theorem tsynced_nil  (w0 : World) :
    Calls Try.prog 15 #[.pointer none] w0 fun e w => e = .returned (.int .i64 0) ∧ Below w0.heap.size w0 w := by
  refine enter (args := [.pointer none]) Try.func15 rfl Try.ntmps15 rfl ?_
  have H := Sat.start w0
  refine cw_seq ?_
  -- region 0 tape.go:89
  refine cw_region (clf [.U]) [0] rfl (by kernel_rfl) (by decide) ?_
  refine TF.u (v := (.int .i64 _)) rfl rfl (pr_assign rfl) ?_
  refine TF.nil (nx_then ?_)
  refine cw_seq ?_
  refine cw_seq ?_
  -- region 1 tape.go:90
  refine cw_region (clf [.U, .U]) [0, 1] rfl (by kernel_rfl) (by decide) ?_
  refine TF.u (v := (.pointer none)) rfl rfl (pr_move rfl) ?_
  refine TF.u (v := (.bool _)) rfl rfl (pr_peql Try.underlying23 rfl rfl) ?_
  refine TF.nil (nx_then ?_)
  refine cw_condT (t := _) rfl rfl rfl ?_
  refine cw_seq ?_
  -- region 2 tape.go:91
  refine cw_region (clf [.U]) [0] rfl (by kernel_rfl) (by decide) ?_
  refine TF.u (v := (.int .i64 _)) rfl rfl (pr_assign rfl) ?_
  refine TF.nil (nx_then ?_)
  refine cw_ret (rt_then (fin1 (v := (.int .i64 _)) Try.results15 rfl rfl ?_))
  exact ⟨rfl, H.base⟩

theorem troom_nil  (w0 : World) :
    Calls Try.prog 24 #[.pointer none] w0 fun e w => e = .returned (.int .i64 0) ∧ Below w0.heap.size w0 w := by
  refine enter (args := [.pointer none]) Try.func24 rfl Try.ntmps24 rfl ?_
  have H := Sat.start w0
  refine cw_seq ?_
  -- region 0 tape.go:105
  refine cw_region (clf [.U]) [0] rfl (by kernel_rfl) (by decide) ?_
  refine TF.u (v := (.int .i64 _)) rfl rfl (pr_assign rfl) ?_
  refine TF.nil (nx_then ?_)
  refine cw_seq ?_
  refine cw_seq ?_
  -- region 1 tape.go:106
  refine cw_region (clf [.U, .U]) [0, 1] rfl (by kernel_rfl) (by decide) ?_
  refine TF.u (v := (.pointer none)) rfl rfl (pr_move rfl) ?_
  refine TF.u (v := (.bool _)) rfl rfl (pr_peql Try.underlying23 rfl rfl) ?_
  refine TF.nil (nx_then ?_)
  refine cw_condT (t := _) rfl rfl rfl ?_
  refine cw_seq ?_
  -- region 2 tape.go:107
  refine cw_region (clf [.U]) [0] rfl (by kernel_rfl) (by decide) ?_
  refine TF.u (v := (.int .i64 _)) rfl rfl (pr_assign rfl) ?_
  refine TF.nil (nx_then ?_)
  refine cw_ret (rt_then (fin1 (v := (.int .i64 _)) Try.results24 rfl rfl ?_))
  exact ⟨rfl, H.base⟩

theorem tstart_nil  (w0 : World) :
    Calls Try.prog 23 #[.pointer none] w0 fun e w => e = .returned (.int .u64 0) ∧ Below w0.heap.size w0 w := by
  refine enter (args := [.pointer none]) Try.func23 rfl Try.ntmps23 rfl ?_
  have H := Sat.start w0
  refine cw_seq ?_
  -- region 0 tape.go:97
  refine cw_region (clf [.U]) [0] rfl (by kernel_rfl) (by decide) ?_
  refine TF.u (v := (.int .u64 _)) rfl rfl (pr_assign rfl) ?_
  refine TF.nil (nx_then ?_)
  refine cw_seq ?_
  refine cw_seq ?_
  -- region 1 tape.go:98
  refine cw_region (clf [.U, .U]) [0, 1] rfl (by kernel_rfl) (by decide) ?_
  refine TF.u (v := (.pointer none)) rfl rfl (pr_move rfl) ?_
  refine TF.u (v := (.bool _)) rfl rfl (pr_peql Try.underlying23 rfl rfl) ?_
  refine TF.nil (nx_then ?_)
  refine cw_condT (t := _) rfl rfl rfl ?_
  refine cw_seq ?_
  -- region 2 tape.go:99
  refine cw_region (clf [.U]) [0] rfl (by kernel_rfl) (by decide) ?_
  refine TF.u (v := (.int .u64 _)) rfl rfl (pr_assign rfl) ?_
  refine TF.nil (nx_then ?_)
  refine cw_ret (rt_then (fin1 (v := (.int .u64 _)) Try.results23 rfl rfl ?_))
  exact ⟨rfl, H.base⟩

theorem tsync_nil  (w0 : World) :
    Calls Try.prog 16 #[.pointer none] w0 fun e w => e = .returned (.int .i64 1) ∧ Below w0.heap.size w0 w := by
  refine enter (args := [.pointer none]) Try.func16 rfl Try.ntmps16 rfl ?_
  have H := Sat.start w0
  refine cw_seq ?_
  -- region 0 tape.go:30
  refine cw_region (clf [.U]) [0] rfl (by kernel_rfl) (by decide) ?_
  refine TF.u (v := (.int .i64 _)) rfl rfl (pr_assign rfl) ?_
  refine TF.nil (nx_then ?_)
  refine cw_seq ?_
  refine cw_seq ?_
  -- region 1 tape.go:31
  refine cw_region (clf [.U, .U]) [0, 1] rfl (by kernel_rfl) (by decide) ?_
  refine TF.u (v := (.pointer none)) rfl rfl (pr_move rfl) ?_
  refine TF.u (v := (.bool _)) rfl rfl (pr_peql Try.underlying23 rfl rfl) ?_
  refine TF.nil (nx_then ?_)
  refine cw_condT (t := _) rfl rfl rfl ?_
  refine cw_seq ?_
  -- region 2 tape.go:32
  refine cw_region (clf [.U]) [0] rfl (by kernel_rfl) (by decide) ?_
  refine TF.u (v := (.int .i64 _)) rfl rfl (pr_assign rfl) ?_
  refine TF.nil (nx_then ?_)
  refine cw_ret (rt_then (fin1 (v := (.int .i64 _)) Try.results16 rfl rfl ?_))
  exact ⟨rfl, H.base⟩

theorem tappend_nil (A : Option Addr) (n c : Nat) (w0 : World) :
    Calls Try.prog 12 #[.pointer none, .slice A n c] w0 fun e w => e = .returned (.int .i64 1) ∧ Below w0.heap.size w0 w := by
  refine enter (args := [.pointer none, .slice A n c]) Try.func12 rfl Try.ntmps12 rfl ?_
  have H := Sat.start w0
  refine cw_seq ?_
  -- region 0 tape.go:18
  refine cw_region (clf [.U]) [0] rfl (by kernel_rfl) (by decide) ?_
  refine TF.u (v := (.int .i64 _)) rfl rfl (pr_assign rfl) ?_
  refine TF.nil (nx_then ?_)
  refine cw_seq ?_
  refine cw_block ?_
  refine cw_seq ?_
  -- region 1 tape.go:20
  refine cw_region (clf [.U, .U, .U]) [0, 1, 2] rfl (by kernel_rfl) (by decide) ?_
  refine TF.u (v := (.pointer none)) rfl rfl (pr_move rfl) ?_
  refine TF.u (v := (.bool _)) rfl rfl (pr_peql Try.underlying23 rfl rfl) ?_
  refine TF.u (v := (.bool _)) rfl rfl (pr_assign rfl) ?_
  refine TF.nil (nx_then ?_)
  refine cw_condT (t := _) rfl rfl rfl ?_
  refine cw_seq ?_
  -- region 2 tape.go:21
  refine cw_region (clf [.U]) [0] rfl (by kernel_rfl) (by decide) ?_
  refine TF.u (v := (.int .i64 _)) rfl rfl (pr_assign rfl) ?_
  refine TF.nil (nx_then ?_)
  refine cw_ret (rt_block (rt_then (fin1 (v := (.int .i64 _)) Try.results12 rfl rfl ?_)))
  exact ⟨rfl, H.base⟩

theorem tcut_nil (k : Int) (w0 : World) :
    Calls Try.prog 18 #[.pointer none, .int .i64 k] w0 fun e w => e = .returned (.int .i64 1) ∧ Below w0.heap.size w0 w := by
  refine enter (args := [.pointer none, .int .i64 k]) Try.func18 rfl Try.ntmps18 rfl ?_
  have H := Sat.start w0
  refine cw_seq ?_
  -- region 0 tape.go:39
  refine cw_region (clf [.U]) [0] rfl (by kernel_rfl) (by decide) ?_
  refine TF.u (v := (.int .i64 _)) rfl rfl (pr_assign rfl) ?_
  refine TF.nil (nx_then ?_)
  refine cw_seq ?_
  refine cw_seq ?_
  -- region 1 tape.go:40
  refine cw_region (clf [.U, .U, .U, .U, .U, .U, .U, .U, .U, .U, .U, .X, .U, .U]) [0, 1, 2, 3, 4, 5, 6, 7, 8, 9, 10, 11, 12, 13] rfl (by kernel_rfl) (by decide) ?_
  refine TF.u (v := (.pointer none)) rfl rfl (pr_move rfl) ?_
  refine TF.u (v := (.bool _)) rfl rfl (pr_peql Try.underlying23 rfl rfl) ?_
  refine TF.u (v := (.bool _)) rfl rfl (pr_move rfl) ?_
  refine TF.skip rfl (wantF_no rfl rfl rfl rfl) ?_
  refine TF.skip rfl (wantF_no rfl rfl rfl rfl) ?_
  refine TF.u (v := (.bool _)) rfl rfl (pr_pickT rfl rfl rfl) ?_
  refine TF.u (v := (.bool _)) rfl rfl (pr_move rfl) ?_
  refine TF.skip rfl (wantF_no rfl rfl rfl rfl) ?_
  refine TF.skip rfl (wantF_no rfl rfl rfl rfl) ?_
  refine TF.skip rfl (wantF_no rfl rfl rfl rfl) ?_
  refine TF.skip rfl (wantF_no rfl rfl rfl rfl) ?_
  refine TF.skip rfl (wantF_no rfl rfl rfl rfl) ?_
  refine TF.skip rfl (wantF_no rfl rfl rfl rfl) ?_
  refine TF.u (v := (.bool _)) rfl rfl (pr_pickT rfl rfl rfl) ?_
  refine TF.nil (nx_then ?_)
  refine cw_condT (t := _) rfl rfl rfl ?_
  refine cw_seq ?_
  -- region 2 tape.go:41
  refine cw_region (clf [.U]) [0] rfl (by kernel_rfl) (by decide) ?_
  refine TF.u (v := (.int .i64 _)) rfl rfl (pr_assign rfl) ?_
  refine TF.nil (nx_then ?_)
  refine cw_ret (rt_then (fin1 (v := (.int .i64 _)) Try.results18 rfl rfl ?_))
  exact ⟨rfl, H.base⟩

theorem tchop_nil (k : Int) (w0 : World) :
    Calls Try.prog 19 #[.pointer none, .int .i64 k] w0 fun e w => e = .returned (.int .i64 1) ∧ Below w0.heap.size w0 w := by
  refine enter (args := [.pointer none, .int .i64 k]) Try.func19 rfl Try.ntmps19 rfl ?_
  have H := Sat.start w0
  refine cw_seq ?_
  -- region 0 tape.go:52
  refine cw_region (clf [.U]) [0] rfl (by kernel_rfl) (by decide) ?_
  refine TF.u (v := (.int .i64 _)) rfl rfl (pr_assign rfl) ?_
  refine TF.nil (nx_then ?_)
  refine cw_seq ?_
  refine cw_seq ?_
  -- region 1 tape.go:53
  refine cw_region (clf [.U, .U, .U, .U, .U, .U, .U, .U, .U, .U, .U, .X, .U, .U, .U]) [0, 1, 2, 3, 4, 5, 6, 7, 8, 9, 10, 11, 12, 13, 14] rfl (by kernel_rfl) (by decide) ?_
  refine TF.u (v := (.pointer none)) rfl rfl (pr_move rfl) ?_
  refine TF.u (v := (.bool _)) rfl rfl (pr_peql Try.underlying23 rfl rfl) ?_
  refine TF.u (v := (.bool _)) rfl rfl (pr_move rfl) ?_
  refine TF.skip rfl (wantF_no rfl rfl rfl rfl) ?_
  refine TF.skip rfl (wantF_no rfl rfl rfl rfl) ?_
  refine TF.u (v := (.bool _)) rfl rfl (pr_pickT rfl rfl rfl) ?_
  refine TF.u (v := (.bool _)) rfl rfl (pr_move rfl) ?_
  refine TF.skip rfl (wantF_no rfl rfl rfl rfl) ?_
  refine TF.skip rfl (wantF_no rfl rfl rfl rfl) ?_
  refine TF.skip rfl (wantF_no rfl rfl rfl rfl) ?_
  refine TF.skip rfl (wantF_no rfl rfl rfl rfl) ?_
  refine TF.skip rfl (wantF_no rfl rfl rfl rfl) ?_
  refine TF.skip rfl (wantF_no rfl rfl rfl rfl) ?_
  refine TF.skip rfl (wantF_no rfl rfl rfl rfl) ?_
  refine TF.u (v := (.bool _)) rfl rfl (pr_pickT rfl rfl rfl) ?_
  refine TF.nil (nx_then ?_)
  refine cw_condT (t := _) rfl rfl rfl ?_
  refine cw_seq ?_
  -- region 2 tape.go:54
  refine cw_region (clf [.U]) [0] rfl (by kernel_rfl) (by decide) ?_
  refine TF.u (v := (.int .i64 _)) rfl rfl (pr_assign rfl) ?_
  refine TF.nil (nx_then ?_)
  refine cw_ret (rt_then (fin1 (v := (.int .i64 _)) Try.results19 rfl rfl ?_))
  exact ⟨rfl, H.base⟩

theorem tcrash_nil (k : Int) (w0 : World) :
    Calls Try.prog 14 #[.pointer none, .int .i64 k] w0 fun e w => e = .returned (.tuple #[]) ∧ Below w0.heap.size w0 w := by
  refine enter (args := [.pointer none, .int .i64 k]) Try.func14 rfl Try.ntmps14 rfl ?_
  have H := Sat.start w0
  refine cw_seq ?_
  refine cw_seq ?_
  -- region 0 tape.go:63
  refine cw_region (clf [.U, .U]) [0, 1] rfl (by kernel_rfl) (by decide) ?_
  refine TF.u (v := (.pointer none)) rfl rfl (pr_move rfl) ?_
  refine TF.u (v := (.bool _)) rfl rfl (pr_peql Try.underlying23 rfl rfl) ?_
  refine TF.nil (nx_then ?_)
  refine cw_condT (t := _) rfl rfl rfl ?_
  refine cw_ret (rt_then (fin0 Try.results14 ?_))
  exact ⟨rfl, H.base⟩

theorem tbytes_nil  (w0 : World) :
    Calls Try.prog 13 #[.pointer none] w0 fun e w => ∃ A1 n1 c1, e = .returned (.slice A1 n1 c1) ∧ NewB w0 w 5 A1 n1 c1 [] := by
  refine enter (args := [.pointer none]) Try.func13 rfl Try.ntmps13 rfl ?_
  have H := Sat.start w0
  refine cw_seq ?_
  -- region 0 tape.go:72
  refine cw_region (clf [.U]) [0] rfl (by kernel_rfl) (by decide) ?_
  refine TF.u (v := (.slice _ _ _)) rfl rfl (pr_assign rfl) ?_
  refine TF.nil (nx_then ?_)
  refine cw_seq ?_
  -- region 1 tape.go:73
  refine cw_region (clf [.U, .X, .X, .U]) [0, 1, 2, 3] rfl (by kernel_rfl) (by decide) ?_
  refine TF.u (v := (.pointer none)) rfl rfl (pr_move rfl) ?_
  refine TF.call (args := [(.pointer none)]) Try.fn17 rfl rfl (wantF_none rfl) rfl (tlen_nil _) ?_
  rintro e_ w ⟨rfl, hb1⟩
  refine ⟨_, rfl, ?_⟩
  replace H := H.below hb1
  refine TF.make (nl := 0) (nc := 0) (z1 := undef) H rfl (Cx.xx rfl) (wantF_none rfl) Try.underlying25 (Try.ty5) (by rfl) (by rfl) (by omega) (by omega) (by unfold maxLen; omega) ?_
  clear H
  intro bk2 w hltbk2 hb3 H
  rw [made_u8] at H
  replace H := H.toOwn0 (q := 0) (sz := 1) (nc := 0) rfl (by simp [u8s_len]) (by unfold maxLen; omega)
  replace H : Sat _ _ _ [_] := H
  refine TF.u (v := (.slice _ _ _)) rfl rfl (pr_assign rfl) ?_
  refine TF.nil (nx_then ?_)
  refine cw_seq ?_
  refine cw_seq ?_
  -- region 2 tape.go:74
  refine cw_region (clf [.U, .U]) [0, 1] rfl (by kernel_rfl) (by decide) ?_
  refine TF.u (v := (.pointer none)) rfl rfl (pr_move rfl) ?_
  refine TF.u (v := (.bool _)) rfl rfl (pr_pneq Try.underlying23 rfl rfl) ?_
  refine TF.nil (nx_then ?_)
  refine cw_condF (t := _) rfl rfl rfl ?_
  refine cw_skip (nx_then ?_)
  refine cw_seq ?_
  -- region 4 tape.go:77
  refine cw_region (clf [.U, .U]) [0, 1] rfl (by kernel_rfl) (by decide) ?_
  refine TF.u (v := (.slice _ _ _)) rfl rfl (pr_move rfl) ?_
  refine TF.u (v := (.slice _ _ _)) rfl rfl (pr_assign rfl) ?_
  refine TF.nil (nx_then ?_)
  refine cw_ret (fin1 (v := (.slice _ _ _)) Try.results13 rfl rfl ?_)
  exact ⟨_, _, _, rfl, H.toNew (k := 0) rfl⟩

theorem rtappend_ok (tb : Nat) (s : TS) (F : List Nat) (b : List UInt8) (w0 : World) (hF : (cRTape 49 tb (s)).p w0 F) (ok : TOk s) (hb : b.length ≤ 140737488351232) :
    Calls Try.prog 25 #[.pointer (some ⟨tb, 0, none⟩), T b] w0 fun e w => e = .returned (.int .i64 (tAppend s b).2) ∧ Upd (cRTape 49 tb ((tAppend s b).1)) F w0 w ∧ TOk ((tAppend s b).1) := by
  refine enter (args := [.pointer (some ⟨tb, 0, none⟩), T b]) Try.func25 rfl Try.ntmps25 rfl ?_
  have hokp := tAppend_ok ok b
  have H := Sat.start1 hF
  replace H : Sat F w0 w0 [cBlk tb 49 [T s.bs, .int .i64 (s.fast : Int), .int .i64 (s.room : Int), .int .u64 (s.start : Int)]] := H
  obtain ⟨hk1, hk2, hk3, hk4⟩ := ok
  refine cw_seq ?_
  -- region 0 ref.go:16
  refine cw_region (clf [.U]) [0] rfl (by kernel_rfl) (by decide) ?_
  refine TF.u (v := (.int .i64 _)) rfl rfl (pr_assign rfl) ?_
  refine TF.nil (nx_then ?_)
  refine cw_seq ?_
  refine cw_seq ?_
  -- region 1 ref.go:17
  refine cw_drawS H Try.wide_ (clf [.U, .U, .U, .U, .U, .R, .U, .U, .U, .R, .U, .U, .U]) [0, 1, 2, 3, 4, 5, 6, 7, 8, 9, 10, 11, 12] (by kernel_rfl) (by kernel_rfl) ?_
  clear H
  intro w hbr H hB
  refine TF.u (v := (T _)) rfl rfl (pr_move rfl) ?_
  refine TF.u (v := (.int .i64 _)) rfl rfl (pr_slen rfl Try.underlying9 rfl) ?_
  refine TF.u (v := (.pointer (some ⟨_, 0, none⟩))) rfl rfl (pr_move rfl) ?_
  refine TF.u (v := (.pointer (some _))) rfl rfl (pr_nil rfl) ?_
  refine TF.u (v := (.pointer (some ⟨_, 2, none⟩))) rfl rfl (pr_field (o' := 2) Try.underlying49 rfl (Try.ty3.s) (by decide) rfl rfl) ?_
  refine TF.loadr (v := (.int .i64 _)) rfl rfl (wantF_none rfl) Try.underlying3 rfl rfl ((H.blk (k := 0) rfl).atB rfl) ?_
  refine TF.u (v := (.pointer (some ⟨_, 0, none⟩))) rfl rfl (pr_move rfl) ?_
  refine TF.u (v := (.pointer (some _))) rfl rfl (pr_nil rfl) ?_
  refine TF.u (v := (.pointer (some ⟨_, 0, none⟩))) rfl rfl (pr_field (o' := 0) Try.underlying49 rfl (Try.ty9.s) (by decide) rfl rfl) ?_
  refine TF.loadr (v := (T _)) rfl rfl (wantF_none rfl) Try.underlying9 rfl rfl ((H.blk (k := 0) rfl).atB rfl) ?_
  refine TF.u (v := (.int .i64 _)) rfl rfl (pr_slen rfl Try.underlying9 rfl) ?_
  refine TF.u (v := (.int .i64 _)) rfl rfl (pr_sub rfl rfl (IntWalk.i64_in _ (by omega))) ?_
  refine TF.u (v := (.bool _)) rfl rfl (pr_gtr rfl rfl) ?_
  clear hB
  refine TF.nil (nx_then ?_)
  refine cw_cond _ rfl rfl (fun hq2 => ?_) (fun hq2 => ?_)
  ·
    have hp2 := dT hq2
    refine cw_seq ?_
    -- region 2 ref.go:18
    refine cw_region (clf [.U]) [0] rfl (by kernel_rfl) (by decide) ?_
    refine TF.u (v := (.int .i64 _)) rfl rfl (pr_assign rfl) ?_
    refine TF.nil (nx_then ?_)
    refine cw_ret (rt_then (fin1 (v := (.int .i64 _)) Try.results25 rfl rfl ?_))
    rw [tAppend_no (by omega)] at hokp ⊢
    have H9 : Sat F w0 _ [cRTape 49 tb (s)] := H
    exact ⟨rfl, H9.toUpd (k := 0) rfl, hokp⟩
  ·
    have hp2 := dF hq2
    refine cw_skip (nx_then ?_)
    refine cw_seq ?_
    -- region 3 ref.go:20
    refine cw_region (clf [.U, .U, .U, .U, .X, .U, .U, .U, .U, .X]) [0, 1, 2, 3, 4, 5, 6, 7, 8, 9] rfl (by kernel_rfl) (by decide) ?_
    refine TF.u (v := (.pointer (some ⟨_, 0, none⟩))) rfl rfl (pr_move rfl) ?_
    refine TF.u (v := (.pointer (some ⟨_, 0, none⟩))) rfl rfl (pr_move rfl) ?_
    refine TF.u (v := (.pointer (some _))) rfl rfl (pr_nil rfl) ?_
    refine TF.u (v := (.pointer (some ⟨_, 0, none⟩))) rfl rfl (pr_field (o' := 0) Try.underlying49 rfl (Try.ty9.s) (by decide) rfl rfl) ?_
    refine TF.load (v := (T _)) rfl rfl (wantF_none rfl) Try.underlying9 rfl rfl ((H.blk (k := 0) rfl).at_ rfl) ?_
    refine TF.u (v := (T _)) rfl rfl (pr_move rfl) ?_
    refine TF.u (v := (T _)) rfl rfl (pr_sadd rfl rfl (by omega)) ?_
    refine TF.u (v := (.pointer (some _))) rfl rfl (pr_nil rfl) ?_
    refine TF.u (v := (.pointer (some ⟨_, 0, none⟩))) rfl rfl (pr_field (o' := 0) Try.underlying49 rfl (Try.ty9.s) (by decide) rfl rfl) ?_
    refine TF.store (v := (T _)) (q := 0) H rfl rfl rfl (wantF_none rfl) (Try.ty9.s) rfl rfl rfl rfl ?_
    clear H
    intro w ho3 H
    replace H : Sat _ _ _ [_] := H
    refine TF.nil (nx_then ?_)
    refine cw_seq ?_
    -- region 4 ref.go:21
    refine cw_region (clf [.U]) [0] rfl (by kernel_rfl) (by decide) ?_
    refine TF.u (v := (.int .i64 _)) rfl rfl (pr_assign rfl) ?_
    refine TF.nil (nx_then ?_)
    refine cw_ret (fin1 (v := (.int .i64 _)) Try.results25 rfl rfl ?_)
    rw [tAppend_yes (by omega)] at hokp ⊢
    have H9 : Sat F w0 _ [cRTape 49 tb (⟨s.bs ++ b, s.fast, s.room, s.start⟩)] := H
    exact ⟨rfl, H9.toUpd (k := 0) rfl, hokp⟩

theorem rtsync_ok (tb : Nat) (s : TS) (F : List Nat)  (w0 : World) (hF : (cRTape 49 tb (s)).p w0 F) (ok : TOk s)  :
    Calls Try.prog 26 #[.pointer (some ⟨tb, 0, none⟩)] w0 fun e w => e = .returned (.tuple #[]) ∧ Upd (cRTape 49 tb (tSync s)) F w0 w ∧ TOk (tSync s) := by
  refine enter (args := [.pointer (some ⟨tb, 0, none⟩)]) Try.func26 rfl Try.ntmps26 rfl ?_
  have hokp := tSync_ok ok
  have H := Sat.start1 hF
  replace H : Sat F w0 w0 [cBlk tb 49 [T s.bs, .int .i64 (s.fast : Int), .int .i64 (s.room : Int), .int .u64 (s.start : Int)]] := H
  obtain ⟨hk1, hk2, hk3, hk4⟩ := ok
  -- region 0 ref.go:25
  refine cw_region (clf [.U, .U, .U, .U, .X, .U, .U, .U, .X]) [0, 1, 2, 3, 4, 5, 6, 7, 8] rfl (by kernel_rfl) (by decide) ?_
  refine TF.u (v := (.pointer (some ⟨_, 0, none⟩))) rfl rfl (pr_move rfl) ?_
  refine TF.u (v := (.pointer (some ⟨_, 0, none⟩))) rfl rfl (pr_move rfl) ?_
  refine TF.u (v := (.pointer (some _))) rfl rfl (pr_nil rfl) ?_
  refine TF.u (v := (.pointer (some ⟨_, 0, none⟩))) rfl rfl (pr_field (o' := 0) Try.underlying49 rfl (Try.ty9.s) (by decide) rfl rfl) ?_
  refine TF.load (v := (T _)) rfl rfl (wantF_none rfl) Try.underlying9 rfl rfl ((H.blk (k := 0) rfl).at_ rfl) ?_
  refine TF.u (v := (.int .i64 _)) rfl rfl (pr_slen rfl Try.underlying9 rfl) ?_
  refine TF.u (v := (.pointer (some _))) rfl rfl (pr_nil rfl) ?_
  refine TF.u (v := (.pointer (some ⟨_, 1, none⟩))) rfl rfl (pr_field (o' := 1) Try.underlying49 rfl (Try.ty3.s) (by decide) rfl rfl) ?_
  refine TF.store (v := (.int .i64 _)) (q := 0) H rfl rfl rfl (wantF_none rfl) (Try.ty3.s) rfl rfl rfl rfl ?_
  clear H
  intro w ho1 H
  replace H : Sat _ _ _ [_] := H
  refine TF.nil (fin0n Try.results26 ?_)
  have H9 : Sat F w0 _ [cRTape 49 tb (tSync s)] := H
  exact ⟨rfl, H9.toUpd (k := 0) rfl, hokp⟩

theorem rtcut_ok (tb : Nat) (s : TS) (F : List Nat) (k : Int) (w0 : World) (hF : (cRTape 49 tb (s)).p w0 F) (ok : TOk s) (hk5 : -9223372036854775808 ≤ k) (hk6 : k ≤ 9223372036854775807) :
    Calls Try.prog 27 #[.pointer (some ⟨tb, 0, none⟩), .int .i64 k] w0 fun e w => e = .returned (.int .i64 (tCut s k).2) ∧ Upd (cRTape 49 tb ((tCut s k).1)) F w0 w ∧ TOk ((tCut s k).1) := by
  refine enter (args := [.pointer (some ⟨tb, 0, none⟩), .int .i64 k]) Try.func27 rfl Try.ntmps27 rfl ?_
  have hokp := tCut_ok ok k
  have H := Sat.start1 hF
  replace H : Sat F w0 w0 [cBlk tb 49 [T s.bs, .int .i64 (s.fast : Int), .int .i64 (s.room : Int), .int .u64 (s.start : Int)]] := H
  obtain ⟨hk1, hk2, hk3, hk4⟩ := ok
  refine cw_seq ?_
  -- region 0 ref.go:28
  refine cw_region (clf [.U]) [0] rfl (by kernel_rfl) (by decide) ?_
  refine TF.u (v := (.int .i64 _)) rfl rfl (pr_assign rfl) ?_
  refine TF.nil (nx_then ?_)
  refine cw_seq ?_
  refine cw_seq ?_
  -- region 1 ref.go:29
  refine cw_region (clf [.U, .U, .U, .U, .U, .U, .U, .X, .U, .U]) [0, 1, 2, 3, 4, 5, 6, 7, 8, 9] rfl (by kernel_rfl) (by decide) ?_
  refine TF.u (v := (.int .i64 _)) rfl rfl (pr_move rfl) ?_
  refine TF.u (v := (.bool _)) rfl rfl (pr_lss rfl rfl) ?_
  refine TF.u (v := (.bool _)) rfl rfl (pr_move rfl) ?_
  refine TF.split (dj := 7) rfl (fun hq2 => ?_) (fun hq2 => ?_)
  ·
    have hp2 := dT hq2
    refine TF.skip rfl (wantF_no rfl rfl rfl hq2) ?_
    refine TF.skip rfl (wantF_no rfl rfl rfl hq2) ?_
    refine TF.skip rfl (wantF_no rfl rfl rfl hq2) ?_
    refine TF.skip rfl (wantF_no rfl rfl rfl hq2) ?_
    refine TF.skip rfl (wantF_no rfl rfl rfl hq2) ?_
    refine TF.skip rfl (wantF_no rfl rfl rfl hq2) ?_
    refine TF.u (v := (.bool _)) rfl rfl (pr_pickT rfl hq2 rfl) ?_
    refine TF.nil (nx_then ?_)
    refine cw_condT (t := _) rfl rfl rfl ?_
    refine cw_seq ?_
    -- region 2 ref.go:30
    refine cw_region (clf [.U]) [0] rfl (by kernel_rfl) (by decide) ?_
    refine TF.u (v := (.int .i64 _)) rfl rfl (pr_assign rfl) ?_
    refine TF.nil (nx_then ?_)
    refine cw_ret (rt_then (fin1 (v := (.int .i64 _)) Try.results27 rfl rfl ?_))
    rw [tCut_no (by omega)] at hokp ⊢
    have H9 : Sat F w0 _ [cRTape 49 tb (s)] := H
    exact ⟨rfl, H9.toUpd (k := 0) rfl, hokp⟩
  ·
    have hp2 := dF hq2
    refine TF.ug (v := (.int .i64 _)) rfl rfl (wantF_yes rfl rfl rfl hq2) (pr_move rfl) ?_
    refine TF.ug (v := (.pointer (some ⟨_, 0, none⟩))) rfl rfl (wantF_yes rfl rfl rfl hq2) (pr_move rfl) ?_
    refine TF.ug (v := (.pointer (some _))) rfl rfl (wantF_yes rfl rfl rfl hq2) (pr_nil rfl) ?_
    refine TF.ug (v := (.pointer (some ⟨_, 1, none⟩))) rfl rfl (wantF_yes rfl rfl rfl hq2) (pr_field (o' := 1) Try.underlying49 rfl (Try.ty3.s) (by decide) rfl rfl) ?_
    refine TF.load (v := (.int .i64 _)) rfl rfl (wantF_yes rfl rfl rfl hq2) Try.underlying3 rfl rfl ((H.blk (k := 0) rfl).at_ rfl) ?_
    refine TF.ug (v := (.bool _)) rfl rfl (wantF_yes rfl rfl rfl hq2) (pr_gtr rfl rfl) ?_
    refine TF.u (v := (.bool _)) rfl rfl (pr_pickF rfl hq2 rfl) ?_
    refine TF.nil (nx_then ?_)
    refine cw_cond _ rfl rfl (fun hq4 => ?_) (fun hq4 => ?_)
    ·
      have hp4 := dT hq4
      refine cw_seq ?_
      -- region 2 ref.go:30
      refine cw_region (clf [.U]) [0] rfl (by kernel_rfl) (by decide) ?_
      refine TF.u (v := (.int .i64 _)) rfl rfl (pr_assign rfl) ?_
      refine TF.nil (nx_then ?_)
      refine cw_ret (rt_then (fin1 (v := (.int .i64 _)) Try.results27 rfl rfl ?_))
      rw [tCut_no (by omega)] at hokp ⊢
      have H9 : Sat F w0 _ [cRTape 49 tb (s)] := H
      exact ⟨rfl, H9.toUpd (k := 0) rfl, hokp⟩
    ·
      have hp4 := dF hq4
      refine cw_skip (nx_then ?_)
      refine cw_seq ?_
      -- region 3 ref.go:32
      refine cw_region (clf [.U, .U, .U, .U, .X, .U, .U, .U, .U, .X]) [0, 1, 2, 3, 4, 5, 6, 7, 8, 9] rfl (by kernel_rfl) (by decide) ?_
      obtain ⟨m, rfl⟩ := Int.eq_ofNat_of_zero_le (show 0 ≤ k by omega)
      refine TF.u (v := (.pointer (some ⟨_, 0, none⟩))) rfl rfl (pr_move rfl) ?_
      refine TF.u (v := (.pointer (some ⟨_, 0, none⟩))) rfl rfl (pr_move rfl) ?_
      refine TF.u (v := (.pointer (some _))) rfl rfl (pr_nil rfl) ?_
      refine TF.u (v := (.pointer (some ⟨_, 0, none⟩))) rfl rfl (pr_field (o' := 0) Try.underlying49 rfl (Try.ty9.s) (by decide) rfl rfl) ?_
      refine TF.load (v := (T _)) rfl rfl (wantF_none rfl) Try.underlying9 rfl rfl ((H.blk (k := 0) rfl).at_ rfl) ?_
      refine TF.u (v := (.int .i64 _)) rfl rfl (pr_move rfl) ?_
      refine TF.u (v := (T _)) rfl rfl (pr_sslice (l := m) (h := s.bs.length) Try.underlying9 rfl (.inr ⟨_, _, rfl, rfl⟩) (.inl ⟨rfl, rfl⟩) (by omega) (by omega)) ?_
      refine TF.u (v := (.pointer (some _))) rfl rfl (pr_nil rfl) ?_
      refine TF.u (v := (.pointer (some ⟨_, 0, none⟩))) rfl rfl (pr_field (o' := 0) Try.underlying49 rfl (Try.ty9.s) (by decide) rfl rfl) ?_
      refine TF.store (v := (T _)) (q := 0) H rfl rfl rfl (wantF_none rfl) (Try.ty9.s) rfl rfl rfl rfl ?_
      clear H
      intro w ho5 H
      replace H : Sat _ _ _ [_] := H
      rw [List.take_length] at H
      refine TF.nil (nx_then ?_)
      refine cw_seq ?_
      -- region 4 ref.go:33
      refine cw_region (clf [.U, .U, .U, .U, .X, .U, .U, .U, .U, .X]) [0, 1, 2, 3, 4, 5, 6, 7, 8, 9] rfl (by kernel_rfl) (by decide) ?_
      refine TF.u (v := (.pointer (some ⟨_, 0, none⟩))) rfl rfl (pr_move rfl) ?_
      refine TF.u (v := (.pointer (some ⟨_, 0, none⟩))) rfl rfl (pr_move rfl) ?_
      refine TF.u (v := (.pointer (some _))) rfl rfl (pr_nil rfl) ?_
      refine TF.u (v := (.pointer (some ⟨_, 1, none⟩))) rfl rfl (pr_field (o' := 1) Try.underlying49 rfl (Try.ty3.s) (by decide) rfl rfl) ?_
      refine TF.load (v := (.int .i64 _)) rfl rfl (wantF_none rfl) Try.underlying3 rfl rfl ((H.blk (k := 0) rfl).at_ rfl) ?_
      refine TF.u (v := (.int .i64 _)) rfl rfl (pr_move rfl) ?_
      refine TF.u (v := (.int .i64 _)) rfl rfl (pr_sub rfl rfl (show _ = ((s.fast - m : Nat) : Int) from (IntWalk.i64_in _ (by omega)).trans (by omega))) ?_
      refine TF.u (v := (.pointer (some _))) rfl rfl (pr_nil rfl) ?_
      refine TF.u (v := (.pointer (some ⟨_, 1, none⟩))) rfl rfl (pr_field (o' := 1) Try.underlying49 rfl (Try.ty3.s) (by decide) rfl rfl) ?_
      refine TF.store (v := (.int .i64 _)) (q := 0) H rfl rfl rfl (wantF_none rfl) (Try.ty3.s) rfl rfl rfl rfl ?_
      clear H
      intro w ho6 H
      replace H : Sat _ _ _ [_] := H
      refine TF.nil (nx_then ?_)
      refine cw_seq ?_
      -- region 5 ref.go:34
      refine cw_region (clf [.U, .U, .U, .U, .X, .U, .U, .U, .U, .U, .X]) [0, 1, 2, 3, 4, 5, 6, 7, 8, 9, 10] rfl (by kernel_rfl) (by decide) ?_
      refine TF.u (v := (.pointer (some ⟨_, 0, none⟩))) rfl rfl (pr_move rfl) ?_
      refine TF.u (v := (.pointer (some ⟨_, 0, none⟩))) rfl rfl (pr_move rfl) ?_
      refine TF.u (v := (.pointer (some _))) rfl rfl (pr_nil rfl) ?_
      refine TF.u (v := (.pointer (some ⟨_, 3, none⟩))) rfl rfl (pr_field (o' := 3) Try.underlying49 rfl (Try.ty42.s) (by decide) rfl rfl) ?_
      refine TF.load (v := (.int .u64 _)) rfl rfl (wantF_none rfl) Try.underlying42 rfl rfl ((H.blk (k := 0) rfl).at_ rfl) ?_
      refine TF.u (v := (.int .i64 _)) rfl rfl (pr_move rfl) ?_
      refine TF.u (v := (.int .u64 _)) rfl rfl (pr_conv Try.underlying3 Try.underlying42 rfl (IntWalk.u64_in _ (by omega))) ?_
      refine TF.u (v := (.int .u64 _)) rfl rfl (pr_add rfl rfl (addu64 _ _)) ?_
      refine TF.u (v := (.pointer (some _))) rfl rfl (pr_nil rfl) ?_
      refine TF.u (v := (.pointer (some ⟨_, 3, none⟩))) rfl rfl (pr_field (o' := 3) Try.underlying49 rfl (Try.ty42.s) (by decide) rfl rfl) ?_
      refine TF.store (v := (.int .u64 _)) (q := 0) H rfl rfl rfl (wantF_none rfl) (Try.ty42.s) rfl rfl rfl rfl ?_
      clear H
      intro w ho7 H
      replace H : Sat _ _ _ [_] := H
      refine TF.nil (nx_then ?_)
      refine cw_seq ?_
      -- region 6 ref.go:35
      refine cw_region (clf [.U]) [0] rfl (by kernel_rfl) (by decide) ?_
      refine TF.u (v := (.int .i64 _)) rfl rfl (pr_assign rfl) ?_
      refine TF.nil (nx_then ?_)
      refine cw_ret (fin1 (v := (.int .i64 _)) Try.results27 rfl rfl ?_)
      rw [tCut_yes (by omega)] at hokp ⊢
      have H9 : Sat F w0 _ [cRTape 49 tb (⟨s.bs.drop m, s.fast - m, s.room, (s.start + m) % 18446744073709551616⟩)] := H
      exact ⟨rfl, H9.toUpd (k := 0) rfl, hokp⟩

theorem rtchop_ok (tb : Nat) (s : TS) (F : List Nat) (k : Int) (w0 : World) (hF : (cRTape 49 tb (s)).p w0 F) (ok : TOk s) (hk5 : -9223372036854775808 ≤ k) (hk6 : k ≤ 9223372036854775807) :
    Calls Try.prog 28 #[.pointer (some ⟨tb, 0, none⟩), .int .i64 k] w0 fun e w => e = .returned (.int .i64 (tChop s k).2) ∧ Upd (cRTape 49 tb ((tChop s k).1)) F w0 w ∧ TOk ((tChop s k).1) := by
  refine enter (args := [.pointer (some ⟨tb, 0, none⟩), .int .i64 k]) Try.func28 rfl Try.ntmps28 rfl ?_
  have hokp := tChop_ok ok k
  have H := Sat.start1 hF
  replace H : Sat F w0 w0 [cBlk tb 49 [T s.bs, .int .i64 (s.fast : Int), .int .i64 (s.room : Int), .int .u64 (s.start : Int)]] := H
  obtain ⟨hk1, hk2, hk3, hk4⟩ := ok
  refine cw_seq ?_
  -- region 0 ref.go:39
  refine cw_region (clf [.U]) [0] rfl (by kernel_rfl) (by decide) ?_
  refine TF.u (v := (.int .i64 _)) rfl rfl (pr_assign rfl) ?_
  refine TF.nil (nx_then ?_)
  refine cw_seq ?_
  refine cw_seq ?_
  -- region 1 ref.go:40
  refine cw_region (clf [.U, .U, .U, .U, .U, .U, .U, .X, .U, .U, .U]) [0, 1, 2, 3, 4, 5, 6, 7, 8, 9, 10] rfl (by kernel_rfl) (by decide) ?_
  refine TF.u (v := (.int .i64 _)) rfl rfl (pr_move rfl) ?_
  refine TF.u (v := (.bool _)) rfl rfl (pr_lss rfl rfl) ?_
  refine TF.u (v := (.bool _)) rfl rfl (pr_move rfl) ?_
  refine TF.split (dj := 7) rfl (fun hq2 => ?_) (fun hq2 => ?_)
  ·
    have hp2 := dT hq2
    refine TF.skip rfl (wantF_no rfl rfl rfl hq2) ?_
    refine TF.skip rfl (wantF_no rfl rfl rfl hq2) ?_
    refine TF.skip rfl (wantF_no rfl rfl rfl hq2) ?_
    refine TF.skip rfl (wantF_no rfl rfl rfl hq2) ?_
    refine TF.skip rfl (wantF_no rfl rfl rfl hq2) ?_
    refine TF.skip rfl (wantF_no rfl rfl rfl hq2) ?_
    refine TF.skip rfl (wantF_no rfl rfl rfl hq2) ?_
    refine TF.u (v := (.bool _)) rfl rfl (pr_pickT rfl hq2 rfl) ?_
    refine TF.nil (nx_then ?_)
    refine cw_condT (t := _) rfl rfl rfl ?_
    refine cw_seq ?_
    -- region 2 ref.go:41
    refine cw_region (clf [.U]) [0] rfl (by kernel_rfl) (by decide) ?_
    refine TF.u (v := (.int .i64 _)) rfl rfl (pr_assign rfl) ?_
    refine TF.nil (nx_then ?_)
    refine cw_ret (rt_then (fin1 (v := (.int .i64 _)) Try.results28 rfl rfl ?_))
    rw [tChop_no (by omega)] at hokp ⊢
    have H9 : Sat F w0 _ [cRTape 49 tb (s)] := H
    exact ⟨rfl, H9.toUpd (k := 0) rfl, hokp⟩
  ·
    have hp2 := dF hq2
    refine TF.ug (v := (.int .i64 _)) rfl rfl (wantF_yes rfl rfl rfl hq2) (pr_move rfl) ?_
    refine TF.ug (v := (.pointer (some ⟨_, 0, none⟩))) rfl rfl (wantF_yes rfl rfl rfl hq2) (pr_move rfl) ?_
    refine TF.ug (v := (.pointer (some _))) rfl rfl (wantF_yes rfl rfl rfl hq2) (pr_nil rfl) ?_
    refine TF.ug (v := (.pointer (some ⟨_, 0, none⟩))) rfl rfl (wantF_yes rfl rfl rfl hq2) (pr_field (o' := 0) Try.underlying49 rfl (Try.ty9.s) (by decide) rfl rfl) ?_
    refine TF.load (v := (T _)) rfl rfl (wantF_yes rfl rfl rfl hq2) Try.underlying9 rfl rfl ((H.blk (k := 0) rfl).at_ rfl) ?_
    refine TF.ug (v := (.int .i64 _)) rfl rfl (wantF_yes rfl rfl rfl hq2) (pr_slen rfl Try.underlying9 rfl) ?_
    refine TF.ug (v := (.bool _)) rfl rfl (wantF_yes rfl rfl rfl hq2) (pr_gtr rfl rfl) ?_
    refine TF.u (v := (.bool _)) rfl rfl (pr_pickF rfl hq2 rfl) ?_
    refine TF.nil (nx_then ?_)
    refine cw_cond _ rfl rfl (fun hq4 => ?_) (fun hq4 => ?_)
    ·
      have hp4 := dT hq4
      refine cw_seq ?_
      -- region 2 ref.go:41
      refine cw_region (clf [.U]) [0] rfl (by kernel_rfl) (by decide) ?_
      refine TF.u (v := (.int .i64 _)) rfl rfl (pr_assign rfl) ?_
      refine TF.nil (nx_then ?_)
      refine cw_ret (rt_then (fin1 (v := (.int .i64 _)) Try.results28 rfl rfl ?_))
      rw [tChop_no (by omega)] at hokp ⊢
      have H9 : Sat F w0 _ [cRTape 49 tb (s)] := H
      exact ⟨rfl, H9.toUpd (k := 0) rfl, hokp⟩
    ·
      have hp4 := dF hq4
      refine cw_skip (nx_then ?_)
      refine cw_seq ?_
      -- region 3 ref.go:43
      refine cw_region (clf [.U, .U, .U, .U, .X, .U, .U, .U, .U, .X]) [0, 1, 2, 3, 4, 5, 6, 7, 8, 9] rfl (by kernel_rfl) (by decide) ?_
      obtain ⟨m, rfl⟩ := Int.eq_ofNat_of_zero_le (show 0 ≤ k by omega)
      refine TF.u (v := (.pointer (some ⟨_, 0, none⟩))) rfl rfl (pr_move rfl) ?_
      refine TF.u (v := (.pointer (some ⟨_, 0, none⟩))) rfl rfl (pr_move rfl) ?_
      refine TF.u (v := (.pointer (some _))) rfl rfl (pr_nil rfl) ?_
      refine TF.u (v := (.pointer (some ⟨_, 0, none⟩))) rfl rfl (pr_field (o' := 0) Try.underlying49 rfl (Try.ty9.s) (by decide) rfl rfl) ?_
      refine TF.load (v := (T _)) rfl rfl (wantF_none rfl) Try.underlying9 rfl rfl ((H.blk (k := 0) rfl).at_ rfl) ?_
      refine TF.u (v := (.int .i64 _)) rfl rfl (pr_move rfl) ?_
      refine TF.u (v := (T _)) rfl rfl (pr_sslice (l := 0) (h := m) Try.underlying9 rfl (.inl ⟨rfl, rfl⟩) (.inr ⟨_, _, rfl, rfl⟩) (by omega) (by omega)) ?_
      refine TF.u (v := (.pointer (some _))) rfl rfl (pr_nil rfl) ?_
      refine TF.u (v := (.pointer (some ⟨_, 0, none⟩))) rfl rfl (pr_field (o' := 0) Try.underlying49 rfl (Try.ty9.s) (by decide) rfl rfl) ?_
      refine TF.store (v := (T _)) (q := 0) H rfl rfl rfl (wantF_none rfl) (Try.ty9.s) rfl rfl rfl rfl ?_
      clear H
      intro w ho5 H
      replace H : Sat _ _ _ [_] := H
      refine TF.nil (nx_then ?_)
      refine cw_seq ?_
      -- region 4 ref.go:44
      refine cw_region (clf [.U, .U, .U, .U, .X, .U, .U, .U, .U, .X]) [0, 1, 2, 3, 4, 5, 6, 7, 8, 9] rfl (by kernel_rfl) (by decide) ?_
      refine TF.u (v := (.pointer (some ⟨_, 0, none⟩))) rfl rfl (pr_move rfl) ?_
      refine TF.u (v := (.pointer (some ⟨_, 0, none⟩))) rfl rfl (pr_move rfl) ?_
      refine TF.u (v := (.pointer (some _))) rfl rfl (pr_nil rfl) ?_
      refine TF.u (v := (.pointer (some ⟨_, 1, none⟩))) rfl rfl (pr_field (o' := 1) Try.underlying49 rfl (Try.ty3.s) (by decide) rfl rfl) ?_
      refine TF.load (v := (.int .i64 _)) rfl rfl (wantF_none rfl) Try.underlying3 rfl rfl ((H.blk (k := 0) rfl).at_ rfl) ?_
      refine TF.u (v := (.int .i64 _)) rfl rfl (pr_move rfl) ?_
      refine TF.u (v := (.int .i64 _)) rfl rfl (pr_min2 rfl rfl (show _ = ((min s.fast m : Nat) : Int) by omega)) ?_
      refine TF.u (v := (.pointer (some _))) rfl rfl (pr_nil rfl) ?_
      refine TF.u (v := (.pointer (some ⟨_, 1, none⟩))) rfl rfl (pr_field (o' := 1) Try.underlying49 rfl (Try.ty3.s) (by decide) rfl rfl) ?_
      refine TF.store (v := (.int .i64 _)) (q := 0) H rfl rfl rfl (wantF_none rfl) (Try.ty3.s) rfl rfl rfl rfl ?_
      clear H
      intro w ho6 H
      replace H : Sat _ _ _ [_] := H
      refine TF.nil (nx_then ?_)
      refine cw_seq ?_
      -- region 5 ref.go:45
      refine cw_region (clf [.U]) [0] rfl (by kernel_rfl) (by decide) ?_
      refine TF.u (v := (.int .i64 _)) rfl rfl (pr_assign rfl) ?_
      refine TF.nil (nx_then ?_)
      refine cw_ret (fin1 (v := (.int .i64 _)) Try.results28 rfl rfl ?_)
      rw [tChop_yes (by omega)] at hokp ⊢
      have H9 : Sat F w0 _ [cRTape 49 tb (⟨s.bs.take m, min s.fast m, s.room, s.start⟩)] := H
      exact ⟨rfl, H9.toUpd (k := 0) rfl, hokp⟩

theorem rtcrash_ok (tb : Nat) (s : TS) (F : List Nat) (k : Int) (w0 : World) (hF : (cRTape 49 tb (s)).p w0 F) (ok : TOk s) (hk5 : -9223372036854775808 ≤ k) (hk6 : k ≤ 9223372036854775807) :
    Calls Try.prog 29 #[.pointer (some ⟨tb, 0, none⟩), .int .i64 k] w0 fun e w => e = .returned (.tuple #[]) ∧ Upd (cRTape 49 tb (tCrash s k)) F w0 w ∧ TOk (tCrash s k) := by
  refine enter (args := [.pointer (some ⟨tb, 0, none⟩), .int .i64 k]) Try.func29 rfl Try.ntmps29 rfl ?_
  have hokp := tCrash_ok ok k
  have H := Sat.start1 hF
  replace H : Sat F w0 w0 [cBlk tb 49 [T s.bs, .int .i64 (s.fast : Int), .int .i64 (s.room : Int), .int .u64 (s.start : Int)]] := H
  obtain ⟨hk1, hk2, hk3, hk4⟩ := ok
  refine cw_seq ?_
  -- region 0 ref.go:50
  refine cw_drawS H Try.wide_ (clf [.U, .U, .U, .R, .U, .U, .U, .U, .R, .U, .U]) [0, 1, 2, 3, 4, 5, 6, 7, 8, 9, 10] (by kernel_rfl) (by kernel_rfl) ?_
  clear H
  intro w hbr H hB
  refine TF.u (v := (.pointer (some ⟨_, 0, none⟩))) rfl rfl (pr_move rfl) ?_
  refine TF.u (v := (.pointer (some _))) rfl rfl (pr_nil rfl) ?_
  refine TF.u (v := (.pointer (some ⟨_, 0, none⟩))) rfl rfl (pr_field (o' := 0) Try.underlying49 rfl (Try.ty9.s) (by decide) rfl rfl) ?_
  refine TF.loadr (v := (T _)) rfl rfl (wantF_none rfl) Try.underlying9 rfl rfl ((H.blk (k := 0) rfl).atB rfl) ?_
  refine TF.u (v := (.int .i64 _)) rfl rfl (pr_slen rfl Try.underlying9 rfl) ?_
  refine TF.u (v := (.pointer (some ⟨_, 0, none⟩))) rfl rfl (pr_move rfl) ?_
  refine TF.u (v := (.pointer (some _))) rfl rfl (pr_nil rfl) ?_
  refine TF.u (v := (.pointer (some ⟨_, 1, none⟩))) rfl rfl (pr_field (o' := 1) Try.underlying49 rfl (Try.ty3.s) (by decide) rfl rfl) ?_
  refine TF.loadr (v := (.int .i64 _)) rfl rfl (wantF_none rfl) Try.underlying3 rfl rfl ((H.blk (k := 0) rfl).atB rfl) ?_
  refine TF.u (v := (.int .i64 _)) rfl rfl (pr_sub rfl rfl (IntWalk.i64_in _ (by omega))) ?_
  refine TF.u (v := (.int .i64 _)) rfl rfl (pr_assign rfl) ?_
  clear hB
  refine TF.nil (nx_then ?_)
  refine cw_seq ?_
  -- region 1 ref.go:51
  refine cw_drawS H Try.wide_ (clf [.U, .U, .U, .U, .R, .U, .U, .U, .R, .U, .U, .U, .U, .U, .U, .U, .U, .X]) [0, 1, 2, 3, 4, 5, 6, 7, 8, 9, 10, 11, 12, 13, 14, 15, 16, 17] (by kernel_rfl) (by kernel_rfl) ?_
  clear H
  intro w hbr H hB
  have hle := tLeft_le ⟨hk1, hk2, hk3, hk4⟩ k
  have hlt : ((s.bs.take (tLeft s k)).length : Int) = ((tLeft s k : Nat) : Int) := by rw [List.length_take]; omega
  refine TF.u (v := (.pointer (some ⟨_, 0, none⟩))) rfl rfl (pr_move rfl) ?_
  refine TF.u (v := (.pointer (some ⟨_, 0, none⟩))) rfl rfl (pr_move rfl) ?_
  refine TF.u (v := (.pointer (some _))) rfl rfl (pr_nil rfl) ?_
  refine TF.u (v := (.pointer (some ⟨_, 0, none⟩))) rfl rfl (pr_field (o' := 0) Try.underlying49 rfl (Try.ty9.s) (by decide) rfl rfl) ?_
  refine TF.loadr (v := (T _)) rfl rfl (wantF_none rfl) Try.underlying9 rfl rfl ((H.blk (k := 0) rfl).atB rfl) ?_
  refine TF.u (v := (.pointer (some ⟨_, 0, none⟩))) rfl rfl (pr_move rfl) ?_
  refine TF.u (v := (.pointer (some _))) rfl rfl (pr_nil rfl) ?_
  refine TF.u (v := (.pointer (some ⟨_, 1, none⟩))) rfl rfl (pr_field (o' := 1) Try.underlying49 rfl (Try.ty3.s) (by decide) rfl rfl) ?_
  refine TF.loadr (v := (.int .i64 _)) rfl rfl (wantF_none rfl) Try.underlying3 rfl rfl ((H.blk (k := 0) rfl).atB rfl) ?_
  refine TF.u (v := (.int .i64 _)) rfl rfl (pr_move rfl) ?_
  refine TF.u (v := (.int .i64 _)) rfl rfl (pr_move rfl) ?_
  refine TF.u (v := (.int .i64 _)) rfl rfl (pr_min2 rfl rfl rfl) ?_
  refine TF.u (v := (.int .i64 _)) rfl rfl (pr_max2 rfl rfl rfl) ?_
  refine TF.u (v := (.int .i64 _)) rfl rfl (pr_add rfl rfl (show _ = ((tLeft s k : Nat) : Int) from (IntWalk.i64_in _ (by omega)).trans (by unfold tLeft; omega))) ?_
  refine TF.u (v := (T _)) rfl rfl (pr_sslice (l := 0) (h := tLeft s k) Try.underlying9 rfl (.inl ⟨rfl, rfl⟩) (.inr ⟨_, _, rfl, rfl⟩) (by omega) (by omega)) ?_
  refine TF.u (v := (.pointer (some _))) rfl rfl (pr_nil rfl) ?_
  refine TF.u (v := (.pointer (some ⟨_, 0, none⟩))) rfl rfl (pr_field (o' := 0) Try.underlying49 rfl (Try.ty9.s) (by decide) rfl rfl) ?_
  refine TF.store (v := (T _)) (q := 0) H rfl rfl rfl (wantF_none rfl) (Try.ty9.s) rfl rfl rfl rfl ?_
  clear H
  intro w ho1 H
  replace H : Sat _ _ _ [_] := H
  replace H : Sat F w0 _ [cBlk tb 49 [T (s.bs.take (tLeft s k)), .int .i64 (s.fast : Int), .int .i64 (s.room : Int), .int .u64 (s.start : Int)]] := H
  clear hB
  refine TF.nil (nx_then ?_)
  -- region 2 ref.go:52
  refine cw_region (clf [.U, .U, .U, .U, .X, .U, .U, .U, .X]) [0, 1, 2, 3, 4, 5, 6, 7, 8] rfl (by kernel_rfl) (by decide) ?_
  refine TF.u (v := (.pointer (some ⟨_, 0, none⟩))) rfl rfl (pr_move rfl) ?_
  refine TF.u (v := (.pointer (some ⟨_, 0, none⟩))) rfl rfl (pr_move rfl) ?_
  refine TF.u (v := (.pointer (some _))) rfl rfl (pr_nil rfl) ?_
  refine TF.u (v := (.pointer (some ⟨_, 0, none⟩))) rfl rfl (pr_field (o' := 0) Try.underlying49 rfl (Try.ty9.s) (by decide) rfl rfl) ?_
  refine TF.load (v := (T _)) rfl rfl (wantF_none rfl) Try.underlying9 rfl rfl ((H.blk (k := 0) rfl).at_ rfl) ?_
  refine TF.u (v := (.int .i64 _)) rfl rfl (pr_slen rfl Try.underlying9 rfl) ?_
  refine TF.u (v := (.pointer (some _))) rfl rfl (pr_nil rfl) ?_
  refine TF.u (v := (.pointer (some ⟨_, 1, none⟩))) rfl rfl (pr_field (o' := 1) Try.underlying49 rfl (Try.ty3.s) (by decide) rfl rfl) ?_
  refine TF.store (v := (.int .i64 _)) (q := 0) H rfl rfl rfl (wantF_none rfl) (Try.ty3.s) rfl rfl rfl rfl ?_
  clear H
  intro w ho2 H
  replace H : Sat _ _ _ [_] := H
  rw [hlt] at H
  refine TF.nil (fin0n Try.results29 ?_)
  have H9 : Sat F w0 _ [cRTape 49 tb (tCrash s k)] := H
  exact ⟨rfl, H9.toUpd (k := 0) rfl, hokp⟩

theorem rtnew_ok (room : Int) (w0 : World) (h1 : -9223372036854775808 ≤ room) (h2 : room ≤ 9223372036854775807) :
    Calls Try.prog 21 #[.int .i64 room] w0 fun e w => ∃ tb, e = .returned (.pointer (some ⟨tb, 0, none⟩)) ∧ NewC (cRTape 49 tb (tNew room)) w0 w ∧ TOk (tNew room) := by
  refine enter (args := [.int .i64 room]) Try.func21 rfl Try.ntmps21 rfl ?_
  have H := Sat.start w0
  refine cw_seq ?_
  -- region 0 ref.go:13
  refine cw_region (clf [.U]) [0] rfl (by kernel_rfl) (by decide) ?_
  refine TF.u (v := (.pointer _)) rfl rfl (pr_assign rfl) ?_
  refine TF.nil (nx_then ?_)
  refine cw_seq ?_
  -- region 1 ref.go:13
  refine cw_region (clf [.U, .U, .U, .U, .X, .U]) [0, 1, 2, 3, 4, 5] rfl (by kernel_rfl) (by decide) ?_
  refine TF.u (v := (.int .i64 _)) rfl rfl (pr_move rfl) ?_
  refine TF.u (v := (.int .i64 _)) rfl rfl (pr_min2 rfl rfl rfl) ?_
  refine TF.u (v := (.int .i64 _)) rfl rfl (pr_max2 rfl rfl (show _ = (((tNew room).room : Nat) : Int) by simp only [tNew]; omega)) ?_
  refine TF.u (v := (.agg ⟨[(.string ⟨⟨[]⟩⟩), (.int .i64 0), (.int .i64 _), (.int .u64 0)]⟩)) rfl rfl (pr_build (cs := [(.string ⟨⟨[]⟩⟩), (.int .i64 0), (.int .i64 _), (.int .u64 0)]) Try.bld49 rfl rfl) ?_
  refine TF.box (v := (.agg ⟨[_, _, _, _]⟩)) H rfl (Cx.xx rfl) (wantF_none rfl) rfl rfl ?_
  clear H
  intro bk1 w hltbk1 hb2 H
  refine TF.u (v := (.pointer (some ⟨_, 0, none⟩))) rfl rfl (pr_assign rfl) ?_
  refine TF.nil (nx_then ?_)
  refine cw_ret (fin1 (v := (.pointer (some ⟨_, 0, none⟩))) Try.results21 rfl rfl ?_)
  have H9 : Sat [] w0 _ [cRTape 49 bk1 (tNew room)] := H
  exact ⟨_, rfl, H9.toNewC (k := 0) rfl, tNew_ok _⟩

theorem awake_ok (w0 : World) : Calls Try.prog 10 #[] w0 fun e w => e = .returned (.bool true) ∧ Below w0.heap.size w0 w := by
  refine enter (args := []) Try.func10 rfl Try.ntmps10 rfl ?_
  have H := Sat.start w0
  refine cw_seq ?_
  -- region 0 law.go:32
  refine cw_region (clf [.U]) [0] rfl (by kernel_rfl) (by decide) ?_
  refine TF.u (v := (.bool _)) rfl rfl (pr_assign rfl) ?_
  refine TF.nil (nx_then ?_)
  refine cw_seq ?_
  -- region 1 law.go:33
  refine cw_region (clf [.X, .U]) [0, 1] rfl (by kernel_rfl) (by decide) ?_
  refine TF.call (args := [(.int .i64 _)]) Try.fn11 rfl rfl (wantF_none rfl) rfl (tnew_ok 5 _ (by omega) (by omega)) ?_
  rintro e_ w ⟨tb1, rfl, hn1, ok1⟩
  refine ⟨_, rfl, ?_⟩
  replace H := H.newC hn1
  replace H : Sat _ _ _ [_] := H
  refine TF.u (v := (.pointer (some ⟨_, 0, none⟩))) rfl rfl (pr_assign rfl) ?_
  refine TF.nil (nx_then ?_)
  refine cw_seq ?_
  refine cw_seq ?_
  -- region 2 law.go:34
  refine cw_region (clf [.U, .U, .U, .U, .X, .X, .X, .U, .U, .U, .U, .X, .X, .X, .U, .U]) [0, 1, 2, 3, 4, 5, 6, 7, 8, 9, 10, 11, 12, 13, 14, 15] rfl (by kernel_rfl) (by decide) ?_
  refine TF.u (v := (.pointer (some ⟨_, 0, none⟩))) rfl rfl (pr_move rfl) ?_
  refine TF.u (v := (.bool _)) rfl rfl (pr_peql Try.underlying23 rfl rfl) ?_
  refine TF.u (v := (.bool _)) rfl rfl (pr_move rfl) ?_
  refine TF.ug (v := (.pointer (some ⟨_, 0, none⟩))) rfl rfl (wantF_yes rfl rfl rfl rfl) (pr_move rfl) ?_
  refine TF.lit (vs := [(.int .u8 _), (.int .u8 _), (.int .u8 _)]) H rfl (Cx.xx rfl) (wantF_yes rfl rfl rfl rfl) Try.underlying25 (Try.ty5) rfl rfl rfl rfl rfl rfl ?_
  clear H
  intro bk2 w hltbk2 hb3 H
  replace H : Sat _ _ _ (cBlk _ _ (u8s [97, 98, 99]) :: _) := H
  replace H : Sat _ _ _ [_, _] := H
  refine TF.mark (q := 0) H rfl rfl (Cx.xx_ rfl) (wantF_yes rfl rfl rfl rfl) Try.underlying25 Try.underlying5 rfl rfl rfl (by decide) ?_
  clear H
  intro w ho4 H
  replace H : Sat _ _ _ [_, _] := H
  obtain ⟨F5, hF5, hU5⟩ := H.focus (k := 1) rfl
  refine TF.call (args := [(.pointer (some ⟨_, 0, none⟩)), (.slice _ _ _)]) Try.fn12 rfl rfl (wantF_yes rfl rfl rfl rfl) rfl (tappend_ok _ _ _ _ _ _ _ _ hF5 ok1 (H.rd (k := 0) rfl) (by first | omega | (simp only [List.length_append, List.length_cons, List.length_nil]; omega))) ?_
  rintro e_ w ⟨rfl, hu5, ok5⟩
  refine ⟨_, rfl, ?_⟩
  replace H := hU5 hu5
  replace H : Sat _ _ _ [_, _] := H
  refine TF.ug (v := (.bool _)) rfl rfl (wantF_yes rfl rfl rfl rfl) (pr_neq rfl rfl) ?_
  refine TF.u (v := (.bool _)) rfl rfl (pr_pickF rfl rfl rfl) ?_
  refine TF.u (v := (.bool _)) rfl rfl (pr_move rfl) ?_
  refine TF.split (dj := 12) rfl (fun hq7 => by
      have hp7 := dF (nT hq7)
      exfalso
      first | omega | exact hp7 rfl | exact hp7 (by decide) | (simp at hp7; done) | (simp at hp7; omega)) ?_
  intro hq7
  have hp7 := dT (nF hq7)
  refine TF.ug (v := (.pointer (some ⟨_, 0, none⟩))) rfl rfl (wantF_yes rfl rfl rfl hq7) (pr_move rfl) ?_
  refine TF.lit (vs := [(.int .u8 _), (.int .u8 _), (.int .u8 _)]) H rfl (Cx.xx rfl) (wantF_yes rfl rfl rfl hq7) Try.underlying25 (Try.ty5) rfl rfl rfl rfl rfl rfl ?_
  clear H
  intro bk8 w hltbk8 hb9 H
  replace H : Sat _ _ _ (cBlk _ _ (u8s [100, 101, 102]) :: _) := H
  replace H : Sat _ _ _ [_, _, _] := H
  refine TF.mark (q := 0) H rfl rfl (Cx.xx_ rfl) (wantF_yes rfl rfl rfl hq7) Try.underlying25 Try.underlying5 rfl rfl rfl (by decide) ?_
  clear H
  intro w ho10 H
  replace H : Sat _ _ _ [_, _, _] := H
  obtain ⟨F11, hF11, hU11⟩ := H.focus (k := 2) rfl
  refine TF.call (args := [(.pointer (some ⟨_, 0, none⟩)), (.slice _ _ _)]) Try.fn12 rfl rfl (wantF_yes rfl rfl rfl hq7) rfl (tappend_ok _ _ _ _ _ _ _ _ hF11 ok5 (H.rd (k := 0) rfl) (by first | omega | (simp only [List.length_append, List.length_cons, List.length_nil]; omega))) ?_
  rintro e_ w ⟨rfl, hu11, ok11⟩
  refine ⟨_, rfl, ?_⟩
  replace H := hU11 hu11
  replace H : Sat _ _ _ [_, _, _] := H
  refine TF.ug (v := (.bool _)) rfl rfl (wantF_yes rfl rfl rfl hq7) (pr_neq rfl rfl) ?_
  refine TF.u (v := (.bool _)) rfl rfl (pr_pickF rfl hq7 rfl) ?_
  refine TF.nil (nx_then ?_)
  refine cw_cond _ rfl rfl (fun hq13 => by
      have hp13 := dF (nT hq13)
      exfalso
      first | omega | exact hp13 rfl | exact hp13 (by decide) | (simp at hp13; done) | (simp at hp13; omega)) ?_
  intro hq13
  have hp13 := dT (nF hq13)
  refine cw_skip (nx_then ?_)
  refine cw_seq ?_
  -- region 4 law.go:37
  refine cw_region (clf [.U, .X, .X, .U, .U, .U, .X, .U, .U, .U]) [0, 1, 2, 3, 4, 5, 6, 7, 8, 9] rfl (by kernel_rfl) (by decide) ?_
  have e2 : tAppend (tAppend (tNew 5) [97, 98, 99]).1 [100, 101, 102] = (⟨[97, 98, 99], 0, 5, 0⟩, 7) := by decide
  rw [e2] at H ok11
  refine TF.u (v := (.pointer (some ⟨_, 0, none⟩))) rfl rfl (pr_move rfl) ?_
  obtain ⟨F14, hF14, hU14⟩ := H.focus (k := 2) rfl
  refine TF.call (args := [(.pointer (some ⟨_, 0, none⟩))]) Try.fn13 rfl rfl (wantF_none rfl) rfl (tbytes_ok _ _ _ _ hF14 ok11) ?_
  rintro e_ w ⟨A14, n14, c14, rfl, hn14⟩
  refine ⟨_, rfl, ?_⟩
  replace H := H.newS hn14
  refine TF.tostr (H.rd (k := 0) rfl) rfl rfl (wantF_none rfl) Try.underlying25 Try.underlying5 Try.underlying9 rfl ?_
  refine TF.u (v := (.bool _)) rfl rfl (pr_seql rfl rfl) ?_
  refine TF.u (v := (.bool _)) rfl rfl (pr_move rfl) ?_
  refine TF.split (dj := 23) rfl ?_ (fun hq17 => by
      have hp17 := eF hq17
      exfalso
      first | omega | exact hp17 rfl | exact hp17 (by decide) | (simp at hp17; done))
  intro hq17
  have hp17 := eT hq17
  refine TF.ug (v := (.pointer (some ⟨_, 0, none⟩))) rfl rfl (wantF_yes rfl rfl rfl hq17) (pr_move rfl) ?_
  obtain ⟨F19, hF19, hU19⟩ := H.focus (k := 3) rfl
  refine TF.call (args := [(.pointer (some ⟨_, 0, none⟩))]) Try.fn24 rfl rfl (wantF_yes rfl rfl rfl hq17) rfl (troom_ok _ _ _ _ hF19 ok11) ?_
  rintro e_ w ⟨rfl, hb18⟩
  refine ⟨_, rfl, ?_⟩
  replace H := H.below hb18
  refine TF.ug (v := (.bool _)) rfl rfl (wantF_yes rfl rfl rfl hq17) (pr_eql rfl rfl) ?_
  refine TF.u (v := (.bool _)) rfl rfl (pr_pickT rfl hq17 rfl) ?_
  refine TF.u (v := (.bool _)) rfl rfl (pr_assign rfl) ?_
  refine TF.nil (nx_then ?_)
  refine cw_ret (fin1 (v := (.bool _)) Try.results10 rfl rfl ?_)
  exact ⟨by simp, H.base⟩
end Go.Proofs.Ytdanpfiombbdoaa
