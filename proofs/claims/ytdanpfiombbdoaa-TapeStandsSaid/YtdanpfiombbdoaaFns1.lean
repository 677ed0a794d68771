/- What the functions of this seat compute, each walked once (no condition but those in each statement): tape.Tape).Len, tape.Tape).Synced, tape.Tape).Start, tape.Tape).Room, tape.Tape).Append, tape.Tape).Sync, tape.Tape).Cut, tape.Tape).Chop, tape.Tape).Crash, tape.Tape).Bytes, tape.New, tape.Tape).Len#nil, tape.Tape).Synced#nil, tape.Tape).Room#nil, tape.Tape).Start#nil, tape.Tape).Sync#nil, tape.Tape).Append#nil, tape.Tape).Cut#nil, tape.Tape).Chop#nil, tape.Tape).Crash#nil, tape.Tape).Bytes#nil, quaysideref08.Tape).Append, quaysideref08.Tape).Sync, quaysideref08.Tape).Cut, quaysideref08.Tape).Chop, quaysideref08.Tape).Crash, quaysideref08.New, quaysidelaw08.awake, quaysidelaw08.few, quaysidelaw08.does -/
import Derived.Test.YtdanpfiombbdoaaCore7
import Derived.Test.YtdanpfiombbdoaaMath
import Derived.Test.YtdanpfiombbdoaaMath1
import Derived.Test.YtdanpfiombbdoaaCrc
import Derived.Test.YtdanpfiombbdoaaCrc2
import Derived.Test.YtdanpfiombbdoaaCrc3
import Derived.Test.YtdanpfiombbdoaaCore8
import Derived.Test.YtdanpfiombbdoaaCore9
import Derived.Test.YtdanpfiombbdoaaTape
import Derived.Test.YtdanpfiombbdoaaArgs
import Derived.Test.YtdanpfiombbdoaaProg
import Derived.KernelRfl
set_option linter.unusedSimpArgs false
set_option linter.unusedVariables false
set_option maxRecDepth 10000
namespace Go.Proofs.Ytdanpfiombbdoaa
open Go.Q Go.RowKit Go.Proofs
theorem Try.wide_ : Go.Proofs.Try.prog.follows .mixedOrders = true := by kernel_rfl
theorem Try.ty3 : Ty Try.prog 3 (.int .i64) (.int .i64 0) 1 8 := ty_mk (by kernel_rfl) (by kernel_rfl)
theorem Try.ty5 : Ty Try.prog 5 (.int .u8) (.int .u8 0) 1 1 := ty_mk (by kernel_rfl) (by kernel_rfl)
theorem Try.ty9 : Ty Try.prog 9 .string (.string ⟨⟨[]⟩⟩) 1 16 := ty_mk (by kernel_rfl) (by kernel_rfl)
theorem Try.ty25 : Ty Try.prog 25 (.slice 5) (.slice none 0 0) 1 24 := ty_mk (by kernel_rfl) (by kernel_rfl)
theorem Try.ty42 : Ty Try.prog 42 (.int .u64) (.int .u64 0) 1 8 := ty_mk (by kernel_rfl) (by kernel_rfl)
theorem Try.ty47 : Ty Try.prog 47 (.struct (match Try.prog.underlying 47 with | some (.struct fs) => fs | _ => #[])) (.agg ⟨[(.int .i64 0), (.int .i64 0), (.string ⟨⟨[]⟩⟩)]⟩) 3 32 := ty_mk (by kernel_rfl) (by kernel_rfl)
theorem Try.bld44 : Bld Try.prog 44 [(.slice none 0 0), (.int .i64 0), (.int .i64 0), (.int .u64 0)] [(0, 1), (1, 1), (2, 1), (3, 1)] := bld_mk (by kernel_rfl)
theorem Try.bld49 : Bld Try.prog 49 [(.string ⟨⟨[]⟩⟩), (.int .i64 0), (.int .i64 0), (.int .u64 0)] [(0, 1), (1, 1), (2, 1), (3, 1)] := bld_mk (by kernel_rfl)
theorem Try.fn11 : Fnc Try.prog 11 Try.f11 := ⟨Try.func11, by kernel_rfl, by kernel_rfl⟩
theorem Try.fn12 : Fnc Try.prog 12 Try.f12 := ⟨Try.func12, by kernel_rfl, by kernel_rfl⟩
theorem Try.fn13 : Fnc Try.prog 13 Try.f13 := ⟨Try.func13, by kernel_rfl, by kernel_rfl⟩
theorem Try.fn14 : Fnc Try.prog 14 Try.f14 := ⟨Try.func14, by kernel_rfl, by kernel_rfl⟩
theorem Try.fn15 : Fnc Try.prog 15 Try.f15 := ⟨Try.func15, by kernel_rfl, by kernel_rfl⟩
theorem Try.fn16 : Fnc Try.prog 16 Try.f16 := ⟨Try.func16, by kernel_rfl, by kernel_rfl⟩
theorem Try.fn17 : Fnc Try.prog 17 Try.f17 := ⟨Try.func17, by kernel_rfl, by kernel_rfl⟩
theorem Try.fn18 : Fnc Try.prog 18 Try.f18 := ⟨Try.func18, by kernel_rfl, by kernel_rfl⟩
theorem Try.fn19 : Fnc Try.prog 19 Try.f19 := ⟨Try.func19, by kernel_rfl, by kernel_rfl⟩
theorem Try.fn23 : Fnc Try.prog 23 Try.f23 := ⟨Try.func23, by kernel_rfl, by kernel_rfl⟩
theorem Try.fn24 : Fnc Try.prog 24 Try.f24 := ⟨Try.func24, by kernel_rfl, by kernel_rfl⟩
theorem Try.fn25 : Fnc Try.prog 25 Try.f25 := ⟨Try.func25, by kernel_rfl, by kernel_rfl⟩
theorem Try.fn26 : Fnc Try.prog 26 Try.f26 := ⟨Try.func26, by kernel_rfl, by kernel_rfl⟩
theorem Try.fn27 : Fnc Try.prog 27 Try.f27 := ⟨Try.func27, by kernel_rfl, by kernel_rfl⟩
theorem Try.fn28 : Fnc Try.prog 28 Try.f28 := ⟨Try.func28, by kernel_rfl, by kernel_rfl⟩
theorem Try.fn29 : Fnc Try.prog 29 Try.f29 := ⟨Try.func29, by kernel_rfl, by kernel_rfl⟩
theorem tlen_ok (tb : Nat) (s : TS) (F : List Nat) (w0 : World) (hF : (cTape 5 44 tb (s)).p w0 F) (ok : TOk s) :
    Calls Try.prog 17 #[.pointer (some ⟨tb, 0, none⟩)] w0 fun e w => e = .returned (.int .i64 (s.bs.length : Int)) ∧ Below w0.heap.size w0 w := by
  refine enter (args := [.pointer (some ⟨tb, 0, none⟩)]) Try.func17 rfl Try.ntmps17 rfl ?_
  have H := Sat.start w0
  obtain ⟨A, n, c, hblk, hrow⟩ := cTape_rd hF
  obtain ⟨hk1, hk2, hk3, hk4⟩ := ok
  have hl := hrow.length
  refine cw_seq ?_
  -- region 0 tape.go:81
  refine cw_region (clf [.U]) [0] rfl (by kernel_rfl) (by decide) ?_
  refine TF.u (v := (.int .i64 _)) rfl rfl (pr_assign rfl) ?_
  refine TF.nil (nx_then ?_)
  refine cw_seq ?_
  refine cw_seq ?_
  -- region 1 tape.go:82
  refine cw_region (clf [.U, .U]) [0, 1] rfl (by kernel_rfl) (by decide) ?_
  refine TF.u (v := (.pointer (some ⟨_, 0, none⟩))) rfl rfl (pr_move rfl) ?_
  refine TF.u (v := (.bool _)) rfl rfl (pr_peql Try.underlying23 rfl rfl) ?_
  refine TF.nil (nx_then ?_)
  refine cw_condF (t := _) rfl rfl rfl ?_
  refine cw_skip (nx_then ?_)
  refine cw_seq ?_
  -- region 3 tape.go:85
  refine cw_region (clf [.U, .U, .U, .X, .U, .U]) [0, 1, 2, 3, 4, 5] rfl (by kernel_rfl) (by decide) ?_
  refine TF.u (v := (.pointer (some ⟨_, 0, none⟩))) rfl rfl (pr_move rfl) ?_
  refine TF.u (v := (.pointer (some _))) rfl rfl (pr_nil rfl) ?_
  refine TF.u (v := (.pointer (some ⟨_, 0, none⟩))) rfl rfl (pr_field (o' := 0) Try.underlying44 rfl (Try.ty25.s) (by decide) rfl rfl) ?_
  refine TF.load (v := (.slice _ _ _)) rfl rfl (wantF_none rfl) Try.underlying25 rfl rfl ((hblk.below H.base).at_ rfl) ?_
  refine TF.u (v := (.int .i64 _)) rfl rfl (pr_len rfl Try.underlying25 rfl) ?_
  refine TF.u (v := (.int .i64 _)) rfl rfl (pr_assign rfl) ?_
  refine TF.nil (nx_then ?_)
  refine cw_ret (fin1 (v := (.int .i64 _)) Try.results17 rfl rfl ?_)
  rw [hl]
  exact ⟨rfl, H.base⟩

theorem tsynced_ok (tb : Nat) (s : TS) (F : List Nat) (w0 : World) (hF : (cTape 5 44 tb (s)).p w0 F) (ok : TOk s) :
    Calls Try.prog 15 #[.pointer (some ⟨tb, 0, none⟩)] w0 fun e w => e = .returned (.int .i64 (s.fast : Int)) ∧ Below w0.heap.size w0 w := by
  refine enter (args := [.pointer (some ⟨tb, 0, none⟩)]) Try.func15 rfl Try.ntmps15 rfl ?_
  have H := Sat.start w0
  obtain ⟨A, n, c, hblk, hrow⟩ := cTape_rd hF
  obtain ⟨hk1, hk2, hk3, hk4⟩ := ok
  have hl := hrow.length
  refine cw_seq ?_
  -- region 0 tape.go:89
  refine cw_region (clf [.U]) [0] rfl (by kernel_rfl) (by decide) ?_
  refine TF.u (v := (.int .i64 _)) rfl rfl (pr_assign rfl) ?_
  refine TF.nil (nx_then ?_)
  refine cw_seq ?_
  refine cw_seq ?_
  -- region 1 tape.go:90
  refine cw_region (clf [.U, .U]) [0, 1] rfl (by kernel_rfl) (by decide) ?_
  refine TF.u (v := (.pointer (some ⟨_, 0, none⟩))) rfl rfl (pr_move rfl) ?_
  refine TF.u (v := (.bool _)) rfl rfl (pr_peql Try.underlying23 rfl rfl) ?_
  refine TF.nil (nx_then ?_)
  refine cw_condF (t := _) rfl rfl rfl ?_
  refine cw_skip (nx_then ?_)
  refine cw_seq ?_
  -- region 3 tape.go:93
  refine cw_region (clf [.U, .U, .U, .X, .U]) [0, 1, 2, 3, 4] rfl (by kernel_rfl) (by decide) ?_
  refine TF.u (v := (.pointer (some ⟨_, 0, none⟩))) rfl rfl (pr_move rfl) ?_
  refine TF.u (v := (.pointer (some _))) rfl rfl (pr_nil rfl) ?_
  refine TF.u (v := (.pointer (some ⟨_, 1, none⟩))) rfl rfl (pr_field (o' := 1) Try.underlying44 rfl (Try.ty3.s) (by decide) rfl rfl) ?_
  refine TF.load (v := (.int .i64 _)) rfl rfl (wantF_none rfl) Try.underlying3 rfl rfl ((hblk.below H.base).at_ rfl) ?_
  refine TF.u (v := (.int .i64 _)) rfl rfl (pr_assign rfl) ?_
  refine TF.nil (nx_then ?_)
  refine cw_ret (fin1 (v := (.int .i64 _)) Try.results15 rfl rfl ?_)
  exact ⟨rfl, H.base⟩

theorem tstart_ok (tb : Nat) (s : TS) (F : List Nat) (w0 : World) (hF : (cTape 5 44 tb (s)).p w0 F) (ok : TOk s) :
    Calls Try.prog 23 #[.pointer (some ⟨tb, 0, none⟩)] w0 fun e w => e = .returned (.int .u64 (s.start : Int)) ∧ Below w0.heap.size w0 w := by
  refine enter (args := [.pointer (some ⟨tb, 0, none⟩)]) Try.func23 rfl Try.ntmps23 rfl ?_
  have H := Sat.start w0
  obtain ⟨A, n, c, hblk, hrow⟩ := cTape_rd hF
  obtain ⟨hk1, hk2, hk3, hk4⟩ := ok
  have hl := hrow.length
  refine cw_seq ?_
  -- region 0 tape.go:97
  refine cw_region (clf [.U]) [0] rfl (by kernel_rfl) (by decide) ?_
  refine TF.u (v := (.int .u64 _)) rfl rfl (pr_assign rfl) ?_
  refine TF.nil (nx_then ?_)
  refine cw_seq ?_
  refine cw_seq ?_
  -- region 1 tape.go:98
  refine cw_region (clf [.U, .U]) [0, 1] rfl (by kernel_rfl) (by decide) ?_
  refine TF.u (v := (.pointer (some ⟨_, 0, none⟩))) rfl rfl (pr_move rfl) ?_
  refine TF.u (v := (.bool _)) rfl rfl (pr_peql Try.underlying23 rfl rfl) ?_
  refine TF.nil (nx_then ?_)
  refine cw_condF (t := _) rfl rfl rfl ?_
  refine cw_skip (nx_then ?_)
  refine cw_seq ?_
  -- region 3 tape.go:101
  refine cw_region (clf [.U, .U, .U, .X, .U]) [0, 1, 2, 3, 4] rfl (by kernel_rfl) (by decide) ?_
  refine TF.u (v := (.pointer (some ⟨_, 0, none⟩))) rfl rfl (pr_move rfl) ?_
  refine TF.u (v := (.pointer (some _))) rfl rfl (pr_nil rfl) ?_
  refine TF.u (v := (.pointer (some ⟨_, 3, none⟩))) rfl rfl (pr_field (o' := 3) Try.underlying44 rfl (Try.ty42.s) (by decide) rfl rfl) ?_
  refine TF.load (v := (.int .u64 _)) rfl rfl (wantF_none rfl) Try.underlying42 rfl rfl ((hblk.below H.base).at_ rfl) ?_
  refine TF.u (v := (.int .u64 _)) rfl rfl (pr_assign rfl) ?_
  refine TF.nil (nx_then ?_)
  refine cw_ret (fin1 (v := (.int .u64 _)) Try.results23 rfl rfl ?_)
  exact ⟨rfl, H.base⟩

theorem troom_ok (tb : Nat) (s : TS) (F : List Nat) (w0 : World) (hF : (cTape 5 44 tb (s)).p w0 F) (ok : TOk s) :
    Calls Try.prog 24 #[.pointer (some ⟨tb, 0, none⟩)] w0 fun e w => e = .returned (.int .i64 (s.room : Int)) ∧ Below w0.heap.size w0 w := by
  refine enter (args := [.pointer (some ⟨tb, 0, none⟩)]) Try.func24 rfl Try.ntmps24 rfl ?_
  have H := Sat.start w0
  obtain ⟨A, n, c, hblk, hrow⟩ := cTape_rd hF
  obtain ⟨hk1, hk2, hk3, hk4⟩ := ok
  have hl := hrow.length
  refine cw_seq ?_
  -- region 0 tape.go:105
  refine cw_region (clf [.U]) [0] rfl (by kernel_rfl) (by decide) ?_
  refine TF.u (v := (.int .i64 _)) rfl rfl (pr_assign rfl) ?_
  refine TF.nil (nx_then ?_)
  refine cw_seq ?_
  refine cw_seq ?_
  -- region 1 tape.go:106
  refine cw_region (clf [.U, .U]) [0, 1] rfl (by kernel_rfl) (by decide) ?_
  refine TF.u (v := (.pointer (some ⟨_, 0, none⟩))) rfl rfl (pr_move rfl) ?_
  refine TF.u (v := (.bool _)) rfl rfl (pr_peql Try.underlying23 rfl rfl) ?_
  refine TF.nil (nx_then ?_)
  refine cw_condF (t := _) rfl rfl rfl ?_
  refine cw_skip (nx_then ?_)
  refine cw_seq ?_
  -- region 3 tape.go:109
  refine cw_region (clf [.U, .U, .U, .X, .U]) [0, 1, 2, 3, 4] rfl (by kernel_rfl) (by decide) ?_
  refine TF.u (v := (.pointer (some ⟨_, 0, none⟩))) rfl rfl (pr_move rfl) ?_
  refine TF.u (v := (.pointer (some _))) rfl rfl (pr_nil rfl) ?_
  refine TF.u (v := (.pointer (some ⟨_, 2, none⟩))) rfl rfl (pr_field (o' := 2) Try.underlying44 rfl (Try.ty3.s) (by decide) rfl rfl) ?_
  refine TF.load (v := (.int .i64 _)) rfl rfl (wantF_none rfl) Try.underlying3 rfl rfl ((hblk.below H.base).at_ rfl) ?_
  refine TF.u (v := (.int .i64 _)) rfl rfl (pr_assign rfl) ?_
  refine TF.nil (nx_then ?_)
  refine cw_ret (fin1 (v := (.int .i64 _)) Try.results24 rfl rfl ?_)
  exact ⟨rfl, H.base⟩

theorem tappend_ok (tb : Nat) (s : TS) (F : List Nat) (A2 : Option Addr) (n2 c2 : Nat) (b : List UInt8) (w0 : World) (hF : (cTape 5 44 tb (s)).p w0 F) (ok : TOk s) (hb : RdB w0 A2 n2 c2 b) (hn : n2 ≤ 140737488351232) :
    Calls Try.prog 12 #[.pointer (some ⟨tb, 0, none⟩), .slice A2 n2 c2] w0 fun e w => e = .returned (.int .i64 (tAppend s b).2) ∧ Upd (cTape 5 44 tb ((tAppend s b).1)) F w0 w ∧ TOk ((tAppend s b).1) := by
  refine enter (args := [.pointer (some ⟨tb, 0, none⟩), .slice A2 n2 c2]) Try.func12 rfl Try.ntmps12 rfl ?_
  have hokp := tAppend_ok ok b
  have H0 := Sat.start1 hF
  obtain ⟨⟨A, n, c⟩, H⟩ := H0.unex
  clear H0
  replace H : Sat F w0 w0 [cOwnB 5 A n c s.bs, cBlk tb 44 [.slice A n c, .int .i64 (s.fast : Int), .int .i64 (s.room : Int), .int .u64 (s.start : Int)]] := H.unsep
  obtain ⟨hk1, hk2, hk3, hk4⟩ := ok
  have hl := (H.rdB (k := 0) rfl).length
  have hcap := (H.rdB (k := 0) rfl).cap
  refine cw_seq ?_
  -- region 0 tape.go:18
  refine cw_region (clf [.U]) [0] rfl (by kernel_rfl) (by decide) ?_
  refine TF.u (v := (.int .i64 _)) rfl rfl (pr_assign rfl) ?_
  refine TF.nil (nx_then ?_)
  refine cw_seq ?_
  refine cw_block ?_
  refine cw_seq ?_
  -- region 1 tape.go:20
  refine cw_region (clf [.U, .U, .U]) [0, 1, 2] rfl (by kernel_rfl) (by decide) ?_
  have hl2 := hb.length
  refine TF.u (v := (.pointer (some ⟨_, 0, none⟩))) rfl rfl (pr_move rfl) ?_
  refine TF.u (v := (.bool _)) rfl rfl (pr_peql Try.underlying23 rfl rfl) ?_
  refine TF.u (v := (.bool _)) rfl rfl (pr_assign rfl) ?_
  refine TF.nil (nx_then ?_)
  refine cw_condF (t := _) rfl rfl rfl ?_
  refine cw_seq ?_
  -- region 3 tape.go:22
  refine cw_drawS H Try.wide_ (clf [.U, .U, .U, .U, .U, .R, .U, .U, .U, .R, .U, .U, .U, .U]) [0, 1, 2, 3, 4, 5, 6, 7, 8, 9, 10, 11, 12, 13] (by kernel_rfl) (by kernel_rfl) ?_
  clear H
  intro w hbr H hB
  replace hb := hb.below hbr
  refine TF.u (v := (.slice _ _ _)) rfl rfl (pr_move rfl) ?_
  refine TF.u (v := (.int .i64 _)) rfl rfl (pr_len rfl Try.underlying25 rfl) ?_
  refine TF.u (v := (.pointer (some ⟨_, 0, none⟩))) rfl rfl (pr_move rfl) ?_
  refine TF.u (v := (.pointer (some _))) rfl rfl (pr_nil rfl) ?_
  refine TF.u (v := (.pointer (some ⟨_, 2, none⟩))) rfl rfl (pr_field (o' := 2) Try.underlying44 rfl (Try.ty3.s) (by decide) rfl rfl) ?_
  refine TF.loadr (v := (.int .i64 _)) rfl rfl (wantF_none rfl) Try.underlying3 rfl rfl ((H.blk (k := 1) rfl).atB rfl) ?_
  refine TF.u (v := (.pointer (some ⟨_, 0, none⟩))) rfl rfl (pr_move rfl) ?_
  refine TF.u (v := (.pointer (some _))) rfl rfl (pr_nil rfl) ?_
  refine TF.u (v := (.pointer (some ⟨_, 0, none⟩))) rfl rfl (pr_field (o' := 0) Try.underlying44 rfl (Try.ty25.s) (by decide) rfl rfl) ?_
  refine TF.loadr (v := (.slice _ _ _)) rfl rfl (wantF_none rfl) Try.underlying25 rfl rfl ((H.blk (k := 1) rfl).atB rfl) ?_
  refine TF.u (v := (.int .i64 _)) rfl rfl (pr_len rfl Try.underlying25 rfl) ?_
  refine TF.u (v := (.int .i64 _)) rfl rfl (pr_sub rfl rfl (IntWalk.i64_in _ (by omega))) ?_
  refine TF.u (v := (.bool _)) rfl rfl (pr_gtr rfl rfl) ?_
  refine TF.u (v := (.bool _)) rfl rfl (pr_assign rfl) ?_
  clear hB
  refine TF.nil (nx_then ?_)
  refine cw_cond _ rfl rfl (fun hq2 => ?_) (fun hq2 => ?_)
  ·
    have hp2 := dT hq2
    refine cw_seq ?_
    -- region 4 tape.go:23
    refine cw_region (clf [.U]) [0] rfl (by kernel_rfl) (by decide) ?_
    refine TF.u (v := (.int .i64 _)) rfl rfl (pr_assign rfl) ?_
    refine TF.nil (nx_then ?_)
    refine cw_ret (rt_block (rt_then (fin1 (v := (.int .i64 _)) Try.results12 rfl rfl ?_)))
    rw [tAppend_no (by omega)] at hokp ⊢
    have H9 : Sat F w0 _ [cTape 5 44 tb (s)] := Sat.ex (_, _, _) (H.two (i := 0) (j := 0) rfl rfl).sep
    exact ⟨rfl, H9.toUpd (k := 0) rfl, hokp⟩
  ·
    have hp2 := dF hq2
    refine cw_skip (nx_block (nx_then ?_))
    refine cw_seq ?_
    -- region 5 tape.go:25
    refine cw_region (clf [.U, .U, .U, .U, .X, .U, .X, .U, .U, .X]) [0, 1, 2, 3, 4, 5, 6, 7, 8, 9] rfl (by kernel_rfl) (by decide) ?_
    refine TF.u (v := (.pointer (some ⟨_, 0, none⟩))) rfl rfl (pr_move rfl) ?_
    refine TF.u (v := (.pointer (some ⟨_, 0, none⟩))) rfl rfl (pr_move rfl) ?_
    refine TF.u (v := (.pointer (some _))) rfl rfl (pr_nil rfl) ?_
    refine TF.u (v := (.pointer (some ⟨_, 0, none⟩))) rfl rfl (pr_field (o' := 0) Try.underlying44 rfl (Try.ty25.s) (by decide) rfl rfl) ?_
    refine TF.load (v := (.slice _ _ _)) rfl rfl (wantF_none rfl) Try.underlying25 rfl rfl ((H.blk (k := 1) rfl).at_ rfl) ?_
    refine TF.u (v := (.slice _ _ _)) rfl rfl (pr_move rfl) ?_
    refine TF.append (q := 0) (v := (.slice _ _ _)) H rfl rfl rfl (wantF_none rfl) Try.underlying25 (Try.ty5) rfl Try.underlying25 (.inr ⟨_, rfl⟩) rfl rfl (Src.rdB hb) (by unfold maxLen; first | omega | (simp only [List.length_append, List.length_cons, List.length_nil]; omega)) (by first | omega | (simp only [List.length_append, List.length_cons, List.length_nil]; omega)) ?_
    clear H
    intro Arow_3 crow_3 w ho3 H
    replace H : Sat _ _ _ [_, _] := H
    rw [← u8s_app] at H
    refine TF.u (v := (.pointer (some _))) rfl rfl (pr_nil rfl) ?_
    refine TF.u (v := (.pointer (some ⟨_, 0, none⟩))) rfl rfl (pr_field (o' := 0) Try.underlying44 rfl (Try.ty25.s) (by decide) rfl rfl) ?_
    refine TF.store (v := (.slice _ _ _)) (q := 1) H rfl rfl rfl (wantF_none rfl) (Try.ty25.s) rfl rfl rfl rfl ?_
    clear H
    intro w ho4 H
    replace H : Sat _ _ _ [_, _] := H
    refine TF.nil (nx_then ?_)
    refine cw_seq ?_
    -- region 6 tape.go:26
    refine cw_region (clf [.U]) [0] rfl (by kernel_rfl) (by decide) ?_
    refine TF.u (v := (.int .i64 _)) rfl rfl (pr_assign rfl) ?_
    refine TF.nil (nx_then ?_)
    refine cw_ret (fin1 (v := (.int .i64 _)) Try.results12 rfl rfl ?_)
    rw [tAppend_yes (by omega)] at hokp ⊢
    have H9 : Sat F w0 _ [cTape 5 44 tb (⟨s.bs ++ b, s.fast, s.room, s.start⟩)] := Sat.ex (_, _, _) (H.two (i := 0) (j := 0) rfl rfl).sep
    exact ⟨rfl, H9.toUpd (k := 0) rfl, hokp⟩

theorem tsync_ok (tb : Nat) (s : TS) (F : List Nat)  (w0 : World) (hF : (cTape 5 44 tb (s)).p w0 F) (ok : TOk s)  :
    Calls Try.prog 16 #[.pointer (some ⟨tb, 0, none⟩)] w0 fun e w => e = .returned (.int .i64 0) ∧ Upd (cTape 5 44 tb (tSync s)) F w0 w ∧ TOk (tSync s) := by
  refine enter (args := [.pointer (some ⟨tb, 0, none⟩)]) Try.func16 rfl Try.ntmps16 rfl ?_
  have hokp := tSync_ok ok
  have H0 := Sat.start1 hF
  obtain ⟨⟨A, n, c⟩, H⟩ := H0.unex
  clear H0
  replace H : Sat F w0 w0 [cOwnB 5 A n c s.bs, cBlk tb 44 [.slice A n c, .int .i64 (s.fast : Int), .int .i64 (s.room : Int), .int .u64 (s.start : Int)]] := H.unsep
  obtain ⟨hk1, hk2, hk3, hk4⟩ := ok
  have hl := (H.rdB (k := 0) rfl).length
  have hcap := (H.rdB (k := 0) rfl).cap
  refine cw_seq ?_
  -- region 0 tape.go:30
  refine cw_region (clf [.U]) [0] rfl (by kernel_rfl) (by decide) ?_
  refine TF.u (v := (.int .i64 _)) rfl rfl (pr_assign rfl) ?_
  refine TF.nil (nx_then ?_)
  refine cw_seq ?_
  refine cw_seq ?_
  -- region 1 tape.go:31
  refine cw_region (clf [.U, .U]) [0, 1] rfl (by kernel_rfl) (by decide) ?_
  refine TF.u (v := (.pointer (some ⟨_, 0, none⟩))) rfl rfl (pr_move rfl) ?_
  refine TF.u (v := (.bool _)) rfl rfl (pr_peql Try.underlying23 rfl rfl) ?_
  refine TF.nil (nx_then ?_)
  refine cw_condF (t := _) rfl rfl rfl ?_
  refine cw_skip (nx_then ?_)
  refine cw_seq ?_
  -- region 3 tape.go:34
  refine cw_region (clf [.U, .U, .U, .U, .X, .U, .U, .U, .X]) [0, 1, 2, 3, 4, 5, 6, 7, 8] rfl (by kernel_rfl) (by decide) ?_
  refine TF.u (v := (.pointer (some ⟨_, 0, none⟩))) rfl rfl (pr_move rfl) ?_
  refine TF.u (v := (.pointer (some ⟨_, 0, none⟩))) rfl rfl (pr_move rfl) ?_
  refine TF.u (v := (.pointer (some _))) rfl rfl (pr_nil rfl) ?_
  refine TF.u (v := (.pointer (some ⟨_, 0, none⟩))) rfl rfl (pr_field (o' := 0) Try.underlying44 rfl (Try.ty25.s) (by decide) rfl rfl) ?_
  refine TF.load (v := (.slice _ _ _)) rfl rfl (wantF_none rfl) Try.underlying25 rfl rfl ((H.blk (k := 1) rfl).at_ rfl) ?_
  refine TF.u (v := (.int .i64 _)) rfl rfl (pr_len rfl Try.underlying25 rfl) ?_
  refine TF.u (v := (.pointer (some _))) rfl rfl (pr_nil rfl) ?_
  refine TF.u (v := (.pointer (some ⟨_, 1, none⟩))) rfl rfl (pr_field (o' := 1) Try.underlying44 rfl (Try.ty3.s) (by decide) rfl rfl) ?_
  refine TF.store (v := (.int .i64 _)) (q := 1) H rfl rfl rfl (wantF_none rfl) (Try.ty3.s) rfl rfl rfl rfl ?_
  clear H
  intro w ho1 H
  replace H : Sat _ _ _ [_, _] := H
  refine TF.nil (nx_then ?_)
  refine cw_seq ?_
  -- region 4 tape.go:35
  refine cw_region (clf [.U]) [0] rfl (by kernel_rfl) (by decide) ?_
  refine TF.u (v := (.int .i64 _)) rfl rfl (pr_assign rfl) ?_
  refine TF.nil (nx_then ?_)
  refine cw_ret (fin1 (v := (.int .i64 _)) Try.results16 rfl rfl ?_)
  rw [← hl] at H
  have H9 : Sat F w0 _ [cTape 5 44 tb (tSync s)] := Sat.ex (_, _, _) (H.two (i := 0) (j := 0) rfl rfl).sep
  exact ⟨rfl, H9.toUpd (k := 0) rfl, hokp⟩

theorem tcut_ok (tb : Nat) (s : TS) (F : List Nat) (k : Int) (w0 : World) (hF : (cTape 5 44 tb (s)).p w0 F) (ok : TOk s) (hk5 : -9223372036854775808 ≤ k) (hk6 : k ≤ 9223372036854775807) :
    Calls Try.prog 18 #[.pointer (some ⟨tb, 0, none⟩), .int .i64 k] w0 fun e w => e = .returned (.int .i64 (tCut s k).2) ∧ Upd (cTape 5 44 tb ((tCut s k).1)) F w0 w ∧ TOk ((tCut s k).1) := by
  refine enter (args := [.pointer (some ⟨tb, 0, none⟩), .int .i64 k]) Try.func18 rfl Try.ntmps18 rfl ?_
  have hokp := tCut_ok ok k
  have H0 := Sat.start1 hF
  obtain ⟨⟨A, n, c⟩, H⟩ := H0.unex
  clear H0
  replace H : Sat F w0 w0 [cOwnB 5 A n c s.bs, cBlk tb 44 [.slice A n c, .int .i64 (s.fast : Int), .int .i64 (s.room : Int), .int .u64 (s.start : Int)]] := H.unsep
  obtain ⟨hk1, hk2, hk3, hk4⟩ := ok
  have hl := (H.rdB (k := 0) rfl).length
  have hcap := (H.rdB (k := 0) rfl).cap
  refine cw_seq ?_
  -- region 0 tape.go:39
  refine cw_region (clf [.U]) [0] rfl (by kernel_rfl) (by decide) ?_
  refine TF.u (v := (.int .i64 _)) rfl rfl (pr_assign rfl) ?_
  refine TF.nil (nx_then ?_)
  refine cw_seq ?_
  refine cw_seq ?_
  -- region 1 tape.go:40
  refine cw_region (clf [.U, .U, .U, .U, .U, .U, .U, .U, .U, .U, .U, .X, .U, .U]) [0, 1, 2, 3, 4, 5, 6, 7, 8, 9, 10, 11, 12, 13] rfl (by kernel_rfl) (by decide) ?_
  refine TF.u (v := (.pointer (some ⟨_, 0, none⟩))) rfl rfl (pr_move rfl) ?_
  refine TF.u (v := (.bool _)) rfl rfl (pr_peql Try.underlying23 rfl rfl) ?_
  refine TF.u (v := (.bool _)) rfl rfl (pr_move rfl) ?_
  refine TF.ug (v := (.int .i64 _)) rfl rfl (wantF_yes rfl rfl rfl rfl) (pr_move rfl) ?_
  refine TF.ug (v := (.bool _)) rfl rfl (wantF_yes rfl rfl rfl rfl) (pr_lss rfl rfl) ?_
  refine TF.u (v := (.bool _)) rfl rfl (pr_pickF rfl rfl rfl) ?_
  refine TF.u (v := (.bool _)) rfl rfl (pr_move rfl) ?_
  refine TF.split (dj := 12) rfl (fun hq2 => ?_) (fun hq2 => ?_)
  ·
    have hp2 := dT hq2
    refine TF.skip rfl (wantF_no rfl rfl rfl hq2) ?_
    refine TF.skip rfl (wantF_no rfl rfl rfl hq2) ?_
    refine TF.skip rfl (wantF_no rfl rfl rfl hq2) ?_
    refine TF.skip rfl (wantF_no rfl rfl rfl hq2) ?_
    refine TF.skip rfl (wantF_no rfl rfl rfl hq2) ?_
    refine TF.skip rfl (wantF_no rfl rfl rfl hq2) ?_
    refine TF.u (v := (.bool _)) rfl rfl (pr_pickT rfl hq2 rfl) ?_
    refine TF.nil (nx_then ?_)
    refine cw_condT (t := _) rfl rfl rfl ?_
    refine cw_seq ?_
    -- region 2 tape.go:41
    refine cw_region (clf [.U]) [0] rfl (by kernel_rfl) (by decide) ?_
    refine TF.u (v := (.int .i64 _)) rfl rfl (pr_assign rfl) ?_
    refine TF.nil (nx_then ?_)
    refine cw_ret (rt_then (fin1 (v := (.int .i64 _)) Try.results18 rfl rfl ?_))
    rw [tCut_no (by omega)] at hokp ⊢
    have H9 : Sat F w0 _ [cTape 5 44 tb (s)] := Sat.ex (_, _, _) (H.two (i := 0) (j := 0) rfl rfl).sep
    exact ⟨rfl, H9.toUpd (k := 0) rfl, hokp⟩
  ·
    have hp2 := dF hq2
    refine TF.ug (v := (.int .i64 _)) rfl rfl (wantF_yes rfl rfl rfl hq2) (pr_move rfl) ?_
    refine TF.ug (v := (.pointer (some ⟨_, 0, none⟩))) rfl rfl (wantF_yes rfl rfl rfl hq2) (pr_move rfl) ?_
    refine TF.ug (v := (.pointer (some _))) rfl rfl (wantF_yes rfl rfl rfl hq2) (pr_nil rfl) ?_
    refine TF.ug (v := (.pointer (some ⟨_, 1, none⟩))) rfl rfl (wantF_yes rfl rfl rfl hq2) (pr_field (o' := 1) Try.underlying44 rfl (Try.ty3.s) (by decide) rfl rfl) ?_
    refine TF.load (v := (.int .i64 _)) rfl rfl (wantF_yes rfl rfl rfl hq2) Try.underlying3 rfl rfl ((H.blk (k := 1) rfl).at_ rfl) ?_
    refine TF.ug (v := (.bool _)) rfl rfl (wantF_yes rfl rfl rfl hq2) (pr_gtr rfl rfl) ?_
    refine TF.u (v := (.bool _)) rfl rfl (pr_pickF rfl hq2 rfl) ?_
    refine TF.nil (nx_then ?_)
    refine cw_cond _ rfl rfl (fun hq4 => ?_) (fun hq4 => ?_)
    ·
      have hp4 := dT hq4
      refine cw_seq ?_
      -- region 2 tape.go:41
      refine cw_region (clf [.U]) [0] rfl (by kernel_rfl) (by decide) ?_
      refine TF.u (v := (.int .i64 _)) rfl rfl (pr_assign rfl) ?_
      refine TF.nil (nx_then ?_)
      refine cw_ret (rt_then (fin1 (v := (.int .i64 _)) Try.results18 rfl rfl ?_))
      rw [tCut_no (by omega)] at hokp ⊢
      have H9 : Sat F w0 _ [cTape 5 44 tb (s)] := Sat.ex (_, _, _) (H.two (i := 0) (j := 0) rfl rfl).sep
      exact ⟨rfl, H9.toUpd (k := 0) rfl, hokp⟩
    ·
      have hp4 := dF hq4
      refine cw_skip (nx_then ?_)
      refine cw_seq ?_
      -- region 3 tape.go:43
      refine cw_region (clf [.U, .U, .U, .X, .U, .U, .U, .X, .U]) [0, 1, 2, 3, 4, 5, 6, 7, 8] rfl (by kernel_rfl) (by decide) ?_
      obtain ⟨m, rfl⟩ := Int.eq_ofNat_of_zero_le (show 0 ≤ k by omega)
      refine TF.u (v := (.pointer (some ⟨_, 0, none⟩))) rfl rfl (pr_move rfl) ?_
      refine TF.u (v := (.pointer (some _))) rfl rfl (pr_nil rfl) ?_
      refine TF.u (v := (.pointer (some ⟨_, 0, none⟩))) rfl rfl (pr_field (o' := 0) Try.underlying44 rfl (Try.ty25.s) (by decide) rfl rfl) ?_
      refine TF.load (v := (.slice _ _ _)) rfl rfl (wantF_none rfl) Try.underlying25 rfl rfl ((H.blk (k := 1) rfl).at_ rfl) ?_
      refine TF.u (v := (.int .i64 _)) rfl rfl (pr_len rfl Try.underlying25 rfl) ?_
      refine TF.u (v := (.int .i64 _)) rfl rfl (pr_move rfl) ?_
      refine TF.u (v := (.int .i64 _)) rfl rfl (pr_sub rfl rfl (show _ = ((n - m : Nat) : Int) from (IntWalk.i64_in _ (by omega)).trans (by omega))) ?_
      refine TF.make (nl := n - m) (nc := n - m) (z1 := undef) H rfl (Cx.xx rfl) (wantF_none rfl) Try.underlying25 (Try.ty5) rfl rfl (by omega) (by omega) (by unfold maxLen; omega) ?_
      clear H
      intro bk5 w hltbk5 hb6 H
      rw [made_u8] at H
      refine TF.u (v := (.slice _ _ _)) rfl rfl (pr_assign rfl) ?_
      refine TF.nil (nx_then ?_)
      refine cw_seq ?_
      -- region 4 tape.go:44
      refine cw_region (clf [.U, .U, .U, .U, .X, .U, .U, .X]) [0, 1, 2, 3, 4, 5, 6, 7] rfl (by kernel_rfl) (by decide) ?_
      refine TF.u (v := (.slice _ _ _)) rfl rfl (pr_move rfl) ?_
      refine TF.u (v := (.pointer (some ⟨_, 0, none⟩))) rfl rfl (pr_move rfl) ?_
      refine TF.u (v := (.pointer (some _))) rfl rfl (pr_nil rfl) ?_
      refine TF.u (v := (.pointer (some ⟨_, 0, none⟩))) rfl rfl (pr_field (o' := 0) Try.underlying44 rfl (Try.ty25.s) (by decide) rfl rfl) ?_
      refine TF.load (v := (.slice _ _ _)) rfl rfl (wantF_none rfl) Try.underlying25 rfl rfl ((H.blk (k := 2) rfl).at_ rfl) ?_
      refine TF.u (v := (.int .i64 _)) rfl rfl (pr_move rfl) ?_
      refine TF.u (v := (.slice _ _ _)) rfl rfl (pr_cut (l := m) (h := n) (mm := c) Try.underlying25 (Try.ty5.s) rfl (.inr ⟨_, _, rfl, rfl⟩) (.inl ⟨rfl, rfl, rfl⟩) (.inl ⟨rfl, rfl⟩) (by omega) (by omega) (by omega) (n' := n - m) (c' := c - m) (by omega) (by omega)) ?_
      have hcut7 := RdB.cut (lo := m) (hi := n) (m := c) (n' := n - m) (c' := c - m) (H.rd (k := 1) rfl) (by omega) (by omega) (by omega) (by omega) (by omega) (by omega)
      refine TF.copy (q := 0) (v := (.slice _ _ _)) (m := n - m) (m' := n - m) (news := u8s ((s.bs.drop m).take (n - m))) H rfl rfl rfl (wantF_none rfl) Try.underlying25 (Try.ty5.s) rfl rfl (fun _ => rfl) (Nat.min_self _) (by have := first_rdB (P := Try.prog) hcut7 (Nat.le_refl _); rwa [List.take_take, Nat.min_self] at this) (fun _ => u8s_one) (by simp [u8s_len]; omega) ?_
      clear H
      intro w ho1 H
      replace H : Sat _ _ _ [_, _, _] := H
      rw [List.take_of_length_le (show (s.bs.drop m).length ≤ n - m by simp; omega)] at H
      simp only [List.take_zero, List.nil_append, Nat.zero_add, u8s_len, u8s_drop, List.drop_replicate, List.length_drop, hl, Nat.sub_self, List.replicate_zero, ← u8s_app, List.append_nil] at H
      replace H := H.toOwn (q := 0) (sz := 1) (nl := n - m) (nc := n - m) rfl (by simp [u8s_len]; omega) (Nat.le_refl _) (by unfold maxLen; omega)
      replace H : Sat _ _ _ [_, _, _] := H
      rw [u8s_take, Nat.mul_one, List.take_of_length_le (show (s.bs.drop m).length ≤ n - m by simp; omega)] at H
      
      refine TF.nil (nx_then ?_)
      refine cw_seq ?_
      -- region 5 tape.go:45
      refine cw_region (clf [.U, .U, .U, .U, .X]) [0, 1, 2, 3, 4] rfl (by kernel_rfl) (by decide) ?_
      refine TF.u (v := (.pointer (some ⟨_, 0, none⟩))) rfl rfl (pr_move rfl) ?_
      refine TF.u (v := (.slice _ _ _)) rfl rfl (pr_move rfl) ?_
      refine TF.u (v := (.pointer (some _))) rfl rfl (pr_nil rfl) ?_
      refine TF.u (v := (.pointer (some ⟨_, 0, none⟩))) rfl rfl (pr_field (o' := 0) Try.underlying44 rfl (Try.ty25.s) (by decide) rfl rfl) ?_
      refine TF.store (v := (.slice _ _ _)) (q := 2) H rfl rfl rfl (wantF_none rfl) (Try.ty25.s) rfl rfl rfl rfl ?_
      clear H
      intro w ho8 H
      replace H : Sat _ _ _ [_, _, _] := H
      refine TF.nil (nx_then ?_)
      refine cw_seq ?_
      -- region 6 tape.go:46
      refine cw_region (clf [.U, .U, .U, .X, .U, .U, .U, .U, .X]) [0, 1, 2, 3, 4, 5, 6, 7, 8] rfl (by kernel_rfl) (by decide) ?_
      refine TF.u (v := (.pointer (some ⟨_, 0, none⟩))) rfl rfl (pr_move rfl) ?_
      refine TF.u (v := (.pointer (some _))) rfl rfl (pr_nil rfl) ?_
      refine TF.u (v := (.pointer (some ⟨_, 1, none⟩))) rfl rfl (pr_field (o' := 1) Try.underlying44 rfl (Try.ty3.s) (by decide) rfl rfl) ?_
      refine TF.load (v := (.int .i64 _)) rfl rfl (wantF_none rfl) Try.underlying3 rfl rfl ((H.blk (k := 2) rfl).at_ rfl) ?_
      refine TF.u (v := (.int .i64 _)) rfl rfl (pr_move rfl) ?_
      refine TF.u (v := (.int .i64 _)) rfl rfl (pr_sub rfl rfl (show _ = ((s.fast - m : Nat) : Int) from (IntWalk.i64_in _ (by omega)).trans (by omega))) ?_
      refine TF.u (v := (.pointer (some _))) rfl rfl (pr_nil rfl) ?_
      refine TF.u (v := (.pointer (some ⟨_, 1, none⟩))) rfl rfl (pr_field (o' := 1) Try.underlying44 rfl (Try.ty3.s) (by decide) rfl rfl) ?_
      refine TF.store (v := (.int .i64 _)) (q := 2) H rfl rfl rfl (wantF_none rfl) (Try.ty3.s) rfl rfl rfl rfl ?_
      clear H
      intro w ho9 H
      replace H : Sat _ _ _ [_, _, _] := H
      refine TF.nil (nx_then ?_)
      refine cw_seq ?_
      -- region 7 tape.go:47
      refine cw_region (clf [.U, .U, .U, .X, .U, .U, .U, .U, .U, .X]) [0, 1, 2, 3, 4, 5, 6, 7, 8, 9] rfl (by kernel_rfl) (by decide) ?_
      refine TF.u (v := (.pointer (some ⟨_, 0, none⟩))) rfl rfl (pr_move rfl) ?_
      refine TF.u (v := (.pointer (some _))) rfl rfl (pr_nil rfl) ?_
      refine TF.u (v := (.pointer (some ⟨_, 3, none⟩))) rfl rfl (pr_field (o' := 3) Try.underlying44 rfl (Try.ty42.s) (by decide) rfl rfl) ?_
      refine TF.load (v := (.int .u64 _)) rfl rfl (wantF_none rfl) Try.underlying42 rfl rfl ((H.blk (k := 2) rfl).at_ rfl) ?_
      refine TF.u (v := (.int .i64 _)) rfl rfl (pr_move rfl) ?_
      refine TF.u (v := (.int .u64 _)) rfl rfl (pr_conv Try.underlying3 Try.underlying42 rfl (IntWalk.u64_in _ (by omega))) ?_
      refine TF.u (v := (.int .u64 _)) rfl rfl (pr_add rfl rfl (addu64 _ _)) ?_
      refine TF.u (v := (.pointer (some _))) rfl rfl (pr_nil rfl) ?_
      refine TF.u (v := (.pointer (some ⟨_, 3, none⟩))) rfl rfl (pr_field (o' := 3) Try.underlying44 rfl (Try.ty42.s) (by decide) rfl rfl) ?_
      refine TF.store (v := (.int .u64 _)) (q := 2) H rfl rfl rfl (wantF_none rfl) (Try.ty42.s) rfl rfl rfl rfl ?_
      clear H
      intro w ho10 H
      replace H : Sat _ _ _ [_, _, _] := H
      refine TF.nil (nx_then ?_)
      refine cw_seq ?_
      -- region 8 tape.go:48
      refine cw_region (clf [.U]) [0] rfl (by kernel_rfl) (by decide) ?_
      refine TF.u (v := (.int .i64 _)) rfl rfl (pr_assign rfl) ?_
      refine TF.nil (nx_then ?_)
      refine cw_ret (fin1 (v := (.int .i64 _)) Try.results18 rfl rfl ?_)
      rw [tCut_yes (by omega)] at hokp ⊢
      have H9 : Sat F w0 _ [cTape 5 44 tb (⟨s.bs.drop m, s.fast - m, s.room, (s.start + m) % 18446744073709551616⟩)] := Sat.ex (_, _, _) (H.two (i := 0) (j := 1) rfl rfl).sep
      exact ⟨rfl, H9.toUpd (k := 0) rfl, hokp⟩

theorem tchop_ok (tb : Nat) (s : TS) (F : List Nat) (k : Int) (w0 : World) (hF : (cTape 5 44 tb (s)).p w0 F) (ok : TOk s) (hk5 : -9223372036854775808 ≤ k) (hk6 : k ≤ 9223372036854775807) :
    Calls Try.prog 19 #[.pointer (some ⟨tb, 0, none⟩), .int .i64 k] w0 fun e w => e = .returned (.int .i64 (tChop s k).2) ∧ Upd (cTape 5 44 tb ((tChop s k).1)) F w0 w ∧ TOk ((tChop s k).1) := by
  refine enter (args := [.pointer (some ⟨tb, 0, none⟩), .int .i64 k]) Try.func19 rfl Try.ntmps19 rfl ?_
  have hokp := tChop_ok ok k
  have H0 := Sat.start1 hF
  obtain ⟨⟨A, n, c⟩, H⟩ := H0.unex
  clear H0
  replace H : Sat F w0 w0 [cOwnB 5 A n c s.bs, cBlk tb 44 [.slice A n c, .int .i64 (s.fast : Int), .int .i64 (s.room : Int), .int .u64 (s.start : Int)]] := H.unsep
  obtain ⟨hk1, hk2, hk3, hk4⟩ := ok
  have hl := (H.rdB (k := 0) rfl).length
  have hcap := (H.rdB (k := 0) rfl).cap
  refine cw_seq ?_
  -- region 0 tape.go:52
  refine cw_region (clf [.U]) [0] rfl (by kernel_rfl) (by decide) ?_
  refine TF.u (v := (.int .i64 _)) rfl rfl (pr_assign rfl) ?_
  refine TF.nil (nx_then ?_)
  refine cw_seq ?_
  refine cw_seq ?_
  -- region 1 tape.go:53
  refine cw_region (clf [.U, .U, .U, .U, .U, .U, .U, .U, .U, .U, .U, .X, .U, .U, .U]) [0, 1, 2, 3, 4, 5, 6, 7, 8, 9, 10, 11, 12, 13, 14] rfl (by kernel_rfl) (by decide) ?_
  refine TF.u (v := (.pointer (some ⟨_, 0, none⟩))) rfl rfl (pr_move rfl) ?_
  refine TF.u (v := (.bool _)) rfl rfl (pr_peql Try.underlying23 rfl rfl) ?_
  refine TF.u (v := (.bool _)) rfl rfl (pr_move rfl) ?_
  refine TF.ug (v := (.int .i64 _)) rfl rfl (wantF_yes rfl rfl rfl rfl) (pr_move rfl) ?_
  refine TF.ug (v := (.bool _)) rfl rfl (wantF_yes rfl rfl rfl rfl) (pr_lss rfl rfl) ?_
  refine TF.u (v := (.bool _)) rfl rfl (pr_pickF rfl rfl rfl) ?_
  refine TF.u (v := (.bool _)) rfl rfl (pr_move rfl) ?_
  refine TF.split (dj := 11) rfl (fun hq2 => ?_) (fun hq2 => ?_)
  ·
    have hp2 := dT hq2
    refine TF.skip rfl (wantF_no rfl rfl rfl hq2) ?_
    refine TF.skip rfl (wantF_no rfl rfl rfl hq2) ?_
    refine TF.skip rfl (wantF_no rfl rfl rfl hq2) ?_
    refine TF.skip rfl (wantF_no rfl rfl rfl hq2) ?_
    refine TF.skip rfl (wantF_no rfl rfl rfl hq2) ?_
    refine TF.skip rfl (wantF_no rfl rfl rfl hq2) ?_
    refine TF.skip rfl (wantF_no rfl rfl rfl hq2) ?_
    refine TF.u (v := (.bool _)) rfl rfl (pr_pickT rfl hq2 rfl) ?_
    refine TF.nil (nx_then ?_)
    refine cw_condT (t := _) rfl rfl rfl ?_
    refine cw_seq ?_
    -- region 2 tape.go:54
    refine cw_region (clf [.U]) [0] rfl (by kernel_rfl) (by decide) ?_
    refine TF.u (v := (.int .i64 _)) rfl rfl (pr_assign rfl) ?_
    refine TF.nil (nx_then ?_)
    refine cw_ret (rt_then (fin1 (v := (.int .i64 _)) Try.results19 rfl rfl ?_))
    rw [tChop_no (by omega)] at hokp ⊢
    have H9 : Sat F w0 _ [cTape 5 44 tb (s)] := Sat.ex (_, _, _) (H.two (i := 0) (j := 0) rfl rfl).sep
    exact ⟨rfl, H9.toUpd (k := 0) rfl, hokp⟩
  ·
    have hp2 := dF hq2
    refine TF.ug (v := (.int .i64 _)) rfl rfl (wantF_yes rfl rfl rfl hq2) (pr_move rfl) ?_
    refine TF.ug (v := (.pointer (some ⟨_, 0, none⟩))) rfl rfl (wantF_yes rfl rfl rfl hq2) (pr_move rfl) ?_
    refine TF.ug (v := (.pointer (some _))) rfl rfl (wantF_yes rfl rfl rfl hq2) (pr_nil rfl) ?_
    refine TF.ug (v := (.pointer (some ⟨_, 0, none⟩))) rfl rfl (wantF_yes rfl rfl rfl hq2) (pr_field (o' := 0) Try.underlying44 rfl (Try.ty25.s) (by decide) rfl rfl) ?_
    refine TF.load (v := (.slice _ _ _)) rfl rfl (wantF_yes rfl rfl rfl hq2) Try.underlying25 rfl rfl ((H.blk (k := 1) rfl).at_ rfl) ?_
    refine TF.ug (v := (.int .i64 _)) rfl rfl (wantF_yes rfl rfl rfl hq2) (pr_len rfl Try.underlying25 rfl) ?_
    refine TF.ug (v := (.bool _)) rfl rfl (wantF_yes rfl rfl rfl hq2) (pr_gtr rfl rfl) ?_
    refine TF.u (v := (.bool _)) rfl rfl (pr_pickF rfl hq2 rfl) ?_
    refine TF.nil (nx_then ?_)
    refine cw_cond _ rfl rfl (fun hq4 => ?_) (fun hq4 => ?_)
    ·
      have hp4 := dT hq4
      refine cw_seq ?_
      -- region 2 tape.go:54
      refine cw_region (clf [.U]) [0] rfl (by kernel_rfl) (by decide) ?_
      refine TF.u (v := (.int .i64 _)) rfl rfl (pr_assign rfl) ?_
      refine TF.nil (nx_then ?_)
      refine cw_ret (rt_then (fin1 (v := (.int .i64 _)) Try.results19 rfl rfl ?_))
      rw [tChop_no (by omega)] at hokp ⊢
      have H9 : Sat F w0 _ [cTape 5 44 tb (s)] := Sat.ex (_, _, _) (H.two (i := 0) (j := 0) rfl rfl).sep
      exact ⟨rfl, H9.toUpd (k := 0) rfl, hokp⟩
    ·
      have hp4 := dF hq4
      refine cw_skip (nx_then ?_)
      refine cw_seq ?_
      -- region 3 tape.go:56
      refine cw_region (clf [.U, .U, .U, .U, .X, .U, .U, .U, .U, .X]) [0, 1, 2, 3, 4, 5, 6, 7, 8, 9] rfl (by kernel_rfl) (by decide) ?_
      obtain ⟨m, rfl⟩ := Int.eq_ofNat_of_zero_le (show 0 ≤ k by omega)
      refine TF.u (v := (.pointer (some ⟨_, 0, none⟩))) rfl rfl (pr_move rfl) ?_
      refine TF.u (v := (.pointer (some ⟨_, 0, none⟩))) rfl rfl (pr_move rfl) ?_
      refine TF.u (v := (.pointer (some _))) rfl rfl (pr_nil rfl) ?_
      refine TF.u (v := (.pointer (some ⟨_, 0, none⟩))) rfl rfl (pr_field (o' := 0) Try.underlying44 rfl (Try.ty25.s) (by decide) rfl rfl) ?_
      refine TF.load (v := (.slice _ _ _)) rfl rfl (wantF_none rfl) Try.underlying25 rfl rfl ((H.blk (k := 1) rfl).at_ rfl) ?_
      refine TF.u (v := (.int .i64 _)) rfl rfl (pr_move rfl) ?_
      refine TF.u (v := (.slice _ _ _)) rfl rfl (pr_cut (l := 0) (h := m) (mm := c) Try.underlying25 (Try.ty5.s) rfl (.inl ⟨rfl, rfl⟩) (.inr ⟨_, _, rfl, rfl⟩) (.inl ⟨rfl, rfl⟩) (by omega) (by omega) (by omega) (n' := m) (c' := c) (by omega) (by omega)) ?_
      rw [cutA_zero]
      replace H := H.chop (q := 0) (k := m) rfl (by omega)
      replace H : Sat _ _ _ [_, _] := H
      rw [Nat.mul_one, u8s_take] at H
      refine TF.u (v := (.pointer (some _))) rfl rfl (pr_nil rfl) ?_
      refine TF.u (v := (.pointer (some ⟨_, 0, none⟩))) rfl rfl (pr_field (o' := 0) Try.underlying44 rfl (Try.ty25.s) (by decide) rfl rfl) ?_
      refine TF.store (v := (.slice _ _ _)) (q := 1) H rfl rfl rfl (wantF_none rfl) (Try.ty25.s) rfl rfl rfl rfl ?_
      clear H
      intro w ho5 H
      replace H : Sat _ _ _ [_, _] := H
      refine TF.nil (nx_then ?_)
      refine cw_seq ?_
      -- region 4 tape.go:57
      refine cw_region (clf [.U, .U, .U, .U, .X, .U, .U, .U, .U, .X]) [0, 1, 2, 3, 4, 5, 6, 7, 8, 9] rfl (by kernel_rfl) (by decide) ?_
      refine TF.u (v := (.pointer (some ⟨_, 0, none⟩))) rfl rfl (pr_move rfl) ?_
      refine TF.u (v := (.pointer (some ⟨_, 0, none⟩))) rfl rfl (pr_move rfl) ?_
      refine TF.u (v := (.pointer (some _))) rfl rfl (pr_nil rfl) ?_
      refine TF.u (v := (.pointer (some ⟨_, 1, none⟩))) rfl rfl (pr_field (o' := 1) Try.underlying44 rfl (Try.ty3.s) (by decide) rfl rfl) ?_
      refine TF.load (v := (.int .i64 _)) rfl rfl (wantF_none rfl) Try.underlying3 rfl rfl ((H.blk (k := 1) rfl).at_ rfl) ?_
      refine TF.u (v := (.int .i64 _)) rfl rfl (pr_move rfl) ?_
      refine TF.u (v := (.int .i64 _)) rfl rfl (pr_min2 rfl rfl (show _ = ((min s.fast m : Nat) : Int) by omega)) ?_
      refine TF.u (v := (.pointer (some _))) rfl rfl (pr_nil rfl) ?_
      refine TF.u (v := (.pointer (some ⟨_, 1, none⟩))) rfl rfl (pr_field (o' := 1) Try.underlying44 rfl (Try.ty3.s) (by decide) rfl rfl) ?_
      refine TF.store (v := (.int .i64 _)) (q := 1) H rfl rfl rfl (wantF_none rfl) (Try.ty3.s) rfl rfl rfl rfl ?_
      clear H
      intro w ho6 H
      replace H : Sat _ _ _ [_, _] := H
      refine TF.nil (nx_then ?_)
      refine cw_seq ?_
      -- region 5 tape.go:58
      refine cw_region (clf [.U]) [0] rfl (by kernel_rfl) (by decide) ?_
      refine TF.u (v := (.int .i64 _)) rfl rfl (pr_assign rfl) ?_
      refine TF.nil (nx_then ?_)
      refine cw_ret (fin1 (v := (.int .i64 _)) Try.results19 rfl rfl ?_)
      rw [tChop_yes (by omega)] at hokp ⊢
      have H9 : Sat F w0 _ [cTape 5 44 tb (⟨s.bs.take m, min s.fast m, s.room, s.start⟩)] := Sat.ex (_, _, _) (H.two (i := 0) (j := 0) rfl rfl).sep
      exact ⟨rfl, H9.toUpd (k := 0) rfl, hokp⟩

theorem tcrash_ok (tb : Nat) (s : TS) (F : List Nat) (k : Int) (w0 : World) (hF : (cTape 5 44 tb (s)).p w0 F) (ok : TOk s) (hk5 : -9223372036854775808 ≤ k) (hk6 : k ≤ 9223372036854775807) :
    Calls Try.prog 14 #[.pointer (some ⟨tb, 0, none⟩), .int .i64 k] w0 fun e w => e = .returned (.tuple #[]) ∧ Upd (cTape 5 44 tb (tCrash s k)) F w0 w ∧ TOk (tCrash s k) := by
  refine enter (args := [.pointer (some ⟨tb, 0, none⟩), .int .i64 k]) Try.func14 rfl Try.ntmps14 rfl ?_
  have hokp := tCrash_ok ok k
  have H0 := Sat.start1 hF
  obtain ⟨⟨A, n, c⟩, H⟩ := H0.unex
  clear H0
  replace H : Sat F w0 w0 [cOwnB 5 A n c s.bs, cBlk tb 44 [.slice A n c, .int .i64 (s.fast : Int), .int .i64 (s.room : Int), .int .u64 (s.start : Int)]] := H.unsep
  obtain ⟨hk1, hk2, hk3, hk4⟩ := ok
  have hl := (H.rdB (k := 0) rfl).length
  have hcap := (H.rdB (k := 0) rfl).cap
  refine cw_seq ?_
  refine cw_seq ?_
  -- region 0 tape.go:63
  refine cw_region (clf [.U, .U]) [0, 1] rfl (by kernel_rfl) (by decide) ?_
  refine TF.u (v := (.pointer (some ⟨_, 0, none⟩))) rfl rfl (pr_move rfl) ?_
  refine TF.u (v := (.bool _)) rfl rfl (pr_peql Try.underlying23 rfl rfl) ?_
  refine TF.nil (nx_then ?_)
  refine cw_condF (t := _) rfl rfl rfl ?_
  refine cw_skip (nx_then ?_)
  refine cw_seq ?_
  -- region 1 tape.go:66
  refine cw_drawS H Try.wide_ (clf [.U, .U, .U, .R, .U, .U, .U, .U, .R, .U, .U]) [0, 1, 2, 3, 4, 5, 6, 7, 8, 9, 10] (by kernel_rfl) (by kernel_rfl) ?_
  clear H
  intro w hbr H hB
  refine TF.u (v := (.pointer (some ⟨_, 0, none⟩))) rfl rfl (pr_move rfl) ?_
  refine TF.u (v := (.pointer (some _))) rfl rfl (pr_nil rfl) ?_
  refine TF.u (v := (.pointer (some ⟨_, 0, none⟩))) rfl rfl (pr_field (o' := 0) Try.underlying44 rfl (Try.ty25.s) (by decide) rfl rfl) ?_
  refine TF.loadr (v := (.slice _ _ _)) rfl rfl (wantF_none rfl) Try.underlying25 rfl rfl ((H.blk (k := 1) rfl).atB rfl) ?_
  refine TF.u (v := (.int .i64 _)) rfl rfl (pr_len rfl Try.underlying25 rfl) ?_
  refine TF.u (v := (.pointer (some ⟨_, 0, none⟩))) rfl rfl (pr_move rfl) ?_
  refine TF.u (v := (.pointer (some _))) rfl rfl (pr_nil rfl) ?_
  refine TF.u (v := (.pointer (some ⟨_, 1, none⟩))) rfl rfl (pr_field (o' := 1) Try.underlying44 rfl (Try.ty3.s) (by decide) rfl rfl) ?_
  refine TF.loadr (v := (.int .i64 _)) rfl rfl (wantF_none rfl) Try.underlying3 rfl rfl ((H.blk (k := 1) rfl).atB rfl) ?_
  refine TF.u (v := (.int .i64 _)) rfl rfl (pr_sub rfl rfl (IntWalk.i64_in _ (by omega))) ?_
  refine TF.u (v := (.int .i64 _)) rfl rfl (pr_assign rfl) ?_
  clear hB
  refine TF.nil (nx_then ?_)
  refine cw_seq ?_
  -- region 2 tape.go:67
  refine cw_drawS H Try.wide_ (clf [.U, .U, .U, .U, .R, .U, .U, .U, .R, .U, .U, .U, .U, .U, .U, .U, .U, .X]) [0, 1, 2, 3, 4, 5, 6, 7, 8, 9, 10, 11, 12, 13, 14, 15, 16, 17] (by kernel_rfl) (by kernel_rfl) ?_
  clear H
  intro w hbr H hB
  have hle := tLeft_le ⟨hk1, hk2, hk3, hk4⟩ k
  refine TF.u (v := (.pointer (some ⟨_, 0, none⟩))) rfl rfl (pr_move rfl) ?_
  refine TF.u (v := (.pointer (some ⟨_, 0, none⟩))) rfl rfl (pr_move rfl) ?_
  refine TF.u (v := (.pointer (some _))) rfl rfl (pr_nil rfl) ?_
  refine TF.u (v := (.pointer (some ⟨_, 0, none⟩))) rfl rfl (pr_field (o' := 0) Try.underlying44 rfl (Try.ty25.s) (by decide) rfl rfl) ?_
  refine TF.loadr (v := (.slice _ _ _)) rfl rfl (wantF_none rfl) Try.underlying25 rfl rfl ((H.blk (k := 1) rfl).atB rfl) ?_
  refine TF.u (v := (.pointer (some ⟨_, 0, none⟩))) rfl rfl (pr_move rfl) ?_
  refine TF.u (v := (.pointer (some _))) rfl rfl (pr_nil rfl) ?_
  refine TF.u (v := (.pointer (some ⟨_, 1, none⟩))) rfl rfl (pr_field (o' := 1) Try.underlying44 rfl (Try.ty3.s) (by decide) rfl rfl) ?_
  refine TF.loadr (v := (.int .i64 _)) rfl rfl (wantF_none rfl) Try.underlying3 rfl rfl ((H.blk (k := 1) rfl).atB rfl) ?_
  refine TF.u (v := (.int .i64 _)) rfl rfl (pr_move rfl) ?_
  refine TF.u (v := (.int .i64 _)) rfl rfl (pr_move rfl) ?_
  refine TF.u (v := (.int .i64 _)) rfl rfl (pr_min2 rfl rfl rfl) ?_
  refine TF.u (v := (.int .i64 _)) rfl rfl (pr_max2 rfl rfl rfl) ?_
  refine TF.u (v := (.int .i64 _)) rfl rfl (pr_add rfl rfl (show _ = ((tLeft s k : Nat) : Int) from (IntWalk.i64_in _ (by omega)).trans (by unfold tLeft; omega))) ?_
  refine TF.u (v := (.slice _ _ _)) rfl rfl (pr_cut (l := 0) (h := tLeft s k) (mm := c) Try.underlying25 (Try.ty5.s) rfl (.inl ⟨rfl, rfl⟩) (.inr ⟨_, _, rfl, rfl⟩) (.inl ⟨rfl, rfl⟩) (by omega) (by omega) (by omega) (n' := tLeft s k) (c' := c) (by omega) (by omega)) ?_
  rw [cutA_zero]
  replace H := H.chop (q := 0) (k := tLeft s k) rfl (by omega)
  replace H : Sat _ _ _ [_, _] := H
  rw [Nat.mul_one, u8s_take] at H
  refine TF.u (v := (.pointer (some _))) rfl rfl (pr_nil rfl) ?_
  refine TF.u (v := (.pointer (some ⟨_, 0, none⟩))) rfl rfl (pr_field (o' := 0) Try.underlying44 rfl (Try.ty25.s) (by decide) rfl rfl) ?_
  refine TF.store (v := (.slice _ _ _)) (q := 1) H rfl rfl rfl (wantF_none rfl) (Try.ty25.s) rfl rfl rfl rfl ?_
  clear H
  intro w ho1 H
  replace H : Sat _ _ _ [_, _] := H
  clear hB
  refine TF.nil (nx_then ?_)
  -- region 3 tape.go:68
  refine cw_region (clf [.U, .U, .U, .U, .X, .U, .U, .U, .X]) [0, 1, 2, 3, 4, 5, 6, 7, 8] rfl (by kernel_rfl) (by decide) ?_
  refine TF.u (v := (.pointer (some ⟨_, 0, none⟩))) rfl rfl (pr_move rfl) ?_
  refine TF.u (v := (.pointer (some ⟨_, 0, none⟩))) rfl rfl (pr_move rfl) ?_
  refine TF.u (v := (.pointer (some _))) rfl rfl (pr_nil rfl) ?_
  refine TF.u (v := (.pointer (some ⟨_, 0, none⟩))) rfl rfl (pr_field (o' := 0) Try.underlying44 rfl (Try.ty25.s) (by decide) rfl rfl) ?_
  refine TF.load (v := (.slice _ _ _)) rfl rfl (wantF_none rfl) Try.underlying25 rfl rfl ((H.blk (k := 1) rfl).at_ rfl) ?_
  refine TF.u (v := (.int .i64 _)) rfl rfl (pr_len rfl Try.underlying25 rfl) ?_
  refine TF.u (v := (.pointer (some _))) rfl rfl (pr_nil rfl) ?_
  refine TF.u (v := (.pointer (some ⟨_, 1, none⟩))) rfl rfl (pr_field (o' := 1) Try.underlying44 rfl (Try.ty3.s) (by decide) rfl rfl) ?_
  refine TF.store (v := (.int .i64 _)) (q := 1) H rfl rfl rfl (wantF_none rfl) (Try.ty3.s) rfl rfl rfl rfl ?_
  clear H
  intro w ho2 H
  replace H : Sat _ _ _ [_, _] := H
  refine TF.nil (fin0n Try.results14 ?_)
  have H9 : Sat F w0 _ [cTape 5 44 tb (tCrash s k)] := Sat.ex (_, _, _) (H.two (i := 0) (j := 0) rfl rfl).sep
  exact ⟨rfl, H9.toUpd (k := 0) rfl, hokp⟩

theorem tbytes_ok (tb : Nat) (s : TS) (F : List Nat) (w0 : World) (hF : (cTape 5 44 tb (s)).p w0 F) (ok : TOk s) :
    Calls Try.prog 13 #[.pointer (some ⟨tb, 0, none⟩)] w0 fun e w => ∃ A1 n1 c1, e = .returned (.slice A1 n1 c1) ∧ NewB w0 w 5 A1 n1 c1 s.bs := by
  refine enter (args := [.pointer (some ⟨tb, 0, none⟩)]) Try.func13 rfl Try.ntmps13 rfl ?_
  have H := Sat.start w0
  obtain ⟨A, n, c, hblk, hrow⟩ := cTape_rd hF
  obtain ⟨hk1, hk2, hk3, hk4⟩ := ok
  have hl := hrow.length
  refine cw_seq ?_
  -- region 0 tape.go:72
  refine cw_region (clf [.U]) [0] rfl (by kernel_rfl) (by decide) ?_
  refine TF.u (v := (.slice _ _ _)) rfl rfl (pr_assign rfl) ?_
  refine TF.nil (nx_then ?_)
  refine cw_seq ?_
  -- region 1 tape.go:73
  refine cw_region (clf [.U, .X, .X, .U]) [0, 1, 2, 3] rfl (by kernel_rfl) (by decide) ?_
  refine TF.u (v := (.pointer (some ⟨_, 0, none⟩))) rfl rfl (pr_move rfl) ?_
  refine TF.call (args := [(.pointer (some ⟨_, 0, none⟩))]) Try.fn17 rfl rfl (wantF_none rfl) rfl (tlen_ok _ _ _ _ (Chk.below _ hF H.base) ⟨hk1, hk2, hk3, hk4⟩) ?_
  rintro e_ w ⟨rfl, hb1⟩
  refine ⟨_, rfl, ?_⟩
  replace H := H.below hb1
  refine TF.make (nl := n) (nc := n) (z1 := undef) H rfl (Cx.xx rfl) (wantF_none rfl) Try.underlying25 (Try.ty5) (by rw [hl]; rfl) (by rw [hl]; rfl) (by omega) (by omega) (by unfold maxLen; omega) ?_
  clear H
  intro bk2 w hltbk2 hb3 H
  rw [made_u8] at H
  refine TF.u (v := (.slice _ _ _)) rfl rfl (pr_assign rfl) ?_
  refine TF.nil (nx_then ?_)
  refine cw_seq ?_
  refine cw_seq ?_
  -- region 2 tape.go:74
  refine cw_region (clf [.U, .U]) [0, 1] rfl (by kernel_rfl) (by decide) ?_
  refine TF.u (v := (.pointer (some ⟨_, 0, none⟩))) rfl rfl (pr_move rfl) ?_
  refine TF.u (v := (.bool _)) rfl rfl (pr_pneq Try.underlying23 rfl rfl) ?_
  refine TF.nil (nx_then ?_)
  refine cw_condT (t := _) rfl rfl rfl ?_
  -- region 3 tape.go:75
  refine cw_region (clf [.U, .U, .U, .U, .X, .X]) [0, 1, 2, 3, 4, 5] rfl (by kernel_rfl) (by decide) ?_
  refine TF.u (v := (.slice _ _ _)) rfl rfl (pr_move rfl) ?_
  refine TF.u (v := (.pointer (some ⟨_, 0, none⟩))) rfl rfl (pr_move rfl) ?_
  refine TF.u (v := (.pointer (some _))) rfl rfl (pr_nil rfl) ?_
  refine TF.u (v := (.pointer (some ⟨_, 0, none⟩))) rfl rfl (pr_field (o' := 0) Try.underlying44 rfl (Try.ty25.s) (by decide) rfl rfl) ?_
  refine TF.load (v := (.slice _ _ _)) rfl rfl (wantF_none rfl) Try.underlying25 rfl rfl ((hblk.below H.base).at_ rfl) ?_
  refine TF.copy (q := 0) (v := (.slice _ _ _)) (m := n) (m' := n) (news := u8s (s.bs.take n)) H rfl rfl rfl (wantF_none rfl) Try.underlying25 (Try.ty5.s) rfl rfl (fun _ => rfl) (by omega) (first_rdB (hrow.below H.base) (Nat.le_refl _)) (fun _ => u8s_one) (by simp [u8s_len]; omega) ?_
  clear H
  intro w ho1 H
  replace H : Sat _ _ _ [_] := H
  rw [List.take_of_length_le (Nat.le_of_eq hl)] at H
  simp only [List.take_zero, List.nil_append, Nat.zero_add, u8s_len, u8s_drop, List.drop_replicate, hl, Nat.sub_self, List.replicate_zero, ← u8s_app, List.append_nil] at H
  replace H := H.toOwn (q := 0) (sz := 1) (nl := n) (nc := n) rfl (by simp [u8s_len]; omega) (Nat.le_refl _) (by unfold maxLen; omega)
  replace H : Sat _ _ _ [_] := H
  rw [u8s_take, Nat.mul_one, List.take_of_length_le (Nat.le_of_eq hl)] at H
  refine TF.nil (nx_then ?_)
  refine cw_seq ?_
  -- region 4 tape.go:77
  refine cw_region (clf [.U, .U]) [0, 1] rfl (by kernel_rfl) (by decide) ?_
  refine TF.u (v := (.slice _ _ _)) rfl rfl (pr_move rfl) ?_
  refine TF.u (v := (.slice _ _ _)) rfl rfl (pr_assign rfl) ?_
  refine TF.nil (nx_then ?_)
  refine cw_ret (fin1 (v := (.slice _ _ _)) Try.results13 rfl rfl ?_)
  exact ⟨_, _, _, rfl, H.toNew (k := 0) rfl⟩

theorem tnew_ok (room : Int) (w0 : World) (h1 : -9223372036854775808 ≤ room) (h2 : room ≤ 9223372036854775807) :
    Calls Try.prog 11 #[.int .i64 room] w0 fun e w => ∃ tb, e = .returned (.pointer (some ⟨tb, 0, none⟩)) ∧ NewC (cTape 5 44 tb (tNew room)) w0 w ∧ TOk (tNew room) := by
  refine enter (args := [.int .i64 room]) Try.func11 rfl Try.ntmps11 rfl ?_
  have H := Sat.start w0
  refine cw_seq ?_
  -- region 0 tape.go:15
  refine cw_region (clf [.U]) [0] rfl (by kernel_rfl) (by decide) ?_
  refine TF.u (v := (.pointer _)) rfl rfl (pr_assign rfl) ?_
  refine TF.nil (nx_then ?_)
  refine cw_seq ?_
  -- region 1 tape.go:15
  refine cw_region (clf [.U, .U, .U, .U, .X, .U]) [0, 1, 2, 3, 4, 5] rfl (by kernel_rfl) (by decide) ?_
  refine TF.u (v := (.int .i64 _)) rfl rfl (pr_move rfl) ?_
  refine TF.u (v := (.int .i64 _)) rfl rfl (pr_min2 rfl rfl rfl) ?_
  refine TF.u (v := (.int .i64 _)) rfl rfl (pr_max2 rfl rfl (show _ = (((tNew room).room : Nat) : Int) by simp only [tNew]; omega)) ?_
  refine TF.u (v := (.agg ⟨[(.slice none 0 0), (.int .i64 0), (.int .i64 _), (.int .u64 0)]⟩)) rfl rfl (pr_build (cs := [(.slice none 0 0), (.int .i64 0), (.int .i64 _), (.int .u64 0)]) Try.bld44 rfl rfl) ?_
  refine TF.box (v := (.agg ⟨[_, _, _, _]⟩)) H rfl (Cx.xx rfl) (wantF_none rfl) rfl rfl ?_
  clear H
  intro bk1 w hltbk1 hb2 H
  refine TF.u (v := (.pointer (some ⟨_, 0, none⟩))) rfl rfl (pr_assign rfl) ?_
  refine TF.nil (nx_then ?_)
  refine cw_ret (fin1 (v := (.pointer (some ⟨_, 0, none⟩))) Try.results11 rfl rfl ?_)
  replace H := H.newS (NewS.nil _ 5 1)
  have H9 : Sat [] w0 _ [cTape 5 44 bk1 (tNew room)] := Sat.ex (none, 0, 0) (H.two (i := 0) (j := 0) rfl rfl).sep
  exact ⟨_, rfl, H9.toNewC (k := 0) rfl, tNew_ok _⟩

theorem tlen_nil  (w0 : World) :
    Calls Try.prog 17 #[.pointer none] w0 fun e w => e = .returned (.int .i64 0) ∧ Below w0.heap.size w0 w := by
  refine enter (args := [.pointer none]) Try.func17 rfl Try.ntmps17 rfl ?_
  have H := Sat.start w0
  refine cw_seq ?_
  -- region 0 tape.go:81
  refine cw_region (clf [.U]) [0] rfl (by kernel_rfl) (by decide) ?_
  refine TF.u (v := (.int .i64 _)) rfl rfl (pr_assign rfl) ?_
  refine TF.nil (nx_then ?_)
  refine cw_seq ?_
  refine cw_seq ?_
  -- region 1 tape.go:82
  refine cw_region (clf [.U, .U]) [0, 1] rfl (by kernel_rfl) (by decide) ?_
  refine TF.u (v := (.pointer none)) rfl rfl (pr_move rfl) ?_
  refine TF.u (v := (.bool _)) rfl rfl (pr_peql Try.underlying23 rfl rfl) ?_
  refine TF.nil (nx_then ?_)
  refine cw_condT (t := _) rfl rfl rfl ?_
  refine cw_seq ?_
  -- region 2 tape.go:83
  refine cw_region (clf [.U]) [0] rfl (by kernel_rfl) (by decide) ?_
  refine TF.u (v := (.int .i64 _)) rfl rfl (pr_assign rfl) ?_
  refine TF.nil (nx_then ?_)
  refine cw_ret (rt_then (fin1 (v := (.int .i64 _)) Try.results17 rfl rfl ?_))
  exact ⟨rfl, H.base⟩

theorem tsynced_nil  (w0 : World) :
    Calls Try.prog 15 #[.pointer none] w0 fun e w => e = .returned (.int .i64 0) ∧ Below w0.heap.size w0 w := by
  refine enter (args := [.pointer none]) Try.func15 rfl Try.ntmps15 rfl ?_
  have H := Sat.start w0
  refine cw_seq ?_
  -- region 0 tape.go:89
  refine cw_region (clf [.U]) [0] rfl (by kernel_rfl) (by decide) ?_
  refine TF.u (v := (.int .i64 _)) rfl rfl (pr_assign rfl) ?_
  refine TF.nil (nx_then ?_)
  refine cw_seq ?_
  refine cw_seq ?_
  -- region 1 tape.go:90
  refine cw_region (clf [.U, .U]) [0, 1] rfl (by kernel_rfl) (by decide) ?_
  refine TF.u (v := (.pointer none)) rfl rfl (pr_move rfl) ?_
  refine TF.u (v := (.bool _)) rfl rfl (pr_peql Try.underlying23 rfl rfl) ?_
  refine TF.nil (nx_then ?_)
  refine cw_condT (t := _) rfl rfl rfl ?_
  refine cw_seq ?_
  -- region 2 tape.go:91
  refine cw_region (clf [.U]) [0] rfl (by kernel_rfl) (by decide) ?_
  refine TF.u (v := (.int .i64 _)) rfl rfl (pr_assign rfl) ?_
  refine TF.nil (nx_then ?_)
  refine cw_ret (rt_then (fin1 (v := (.int .i64 _)) Try.results15 rfl rfl ?_))
  exact ⟨rfl, H.base⟩

theorem troom_nil  (w0 : World) :
    Calls Try.prog 24 #[.pointer none] w0 fun e w => e = .returned (.int .i64 0) ∧ Below w0.heap.size w0 w := by
  refine enter (args := [.pointer none]) Try.func24 rfl Try.ntmps24 rfl ?_
  have H := Sat.start w0
  refine cw_seq ?_
  -- region 0 tape.go:105
  refine cw_region (clf [.U]) [0] rfl (by kernel_rfl) (by decide) ?_
  refine TF.u (v := (.int .i64 _)) rfl rfl (pr_assign rfl) ?_
  refine TF.nil (nx_then ?_)
  refine cw_seq ?_
  refine cw_seq ?_
  -- region 1 tape.go:106
  refine cw_region (clf [.U, .U]) [0, 1] rfl (by kernel_rfl) (by decide) ?_
  refine TF.u (v := (.pointer none)) rfl rfl (pr_move rfl) ?_
  refine TF.u (v := (.bool _)) rfl rfl (pr_peql Try.underlying23 rfl rfl) ?_
  refine TF.nil (nx_then ?_)
  refine cw_condT (t := _) rfl rfl rfl ?_
  refine cw_seq ?_
  -- region 2 tape.go:107
  refine cw_region (clf [.U]) [0] rfl (by kernel_rfl) (by decide) ?_
  refine TF.u (v := (.int .i64 _)) rfl rfl (pr_assign rfl) ?_
  refine TF.nil (nx_then ?_)
  refine cw_ret (rt_then (fin1 (v := (.int .i64 _)) Try.results24 rfl rfl ?_))
  exact ⟨rfl, H.base⟩

theorem tstart_nil  (w0 : World) :
    Calls Try.prog 23 #[.pointer none] w0 fun e w => e = .returned (.int .u64 0) ∧ Below w0.heap.size w0 w := by
  refine enter (args := [.pointer none]) Try.func23 rfl Try.ntmps23 rfl ?_
  have H := Sat.start w0
  refine cw_seq ?_
  -- region 0 tape.go:97
  refine cw_region (clf [.U]) [0] rfl (by kernel_rfl) (by decide) ?_
  refine TF.u (v := (.int .u64 _)) rfl rfl (pr_assign rfl) ?_
  refine TF.nil (nx_then ?_)
  refine cw_seq ?_
  refine cw_seq ?_
  -- region 1 tape.go:98
  refine cw_region (clf [.U, .U]) [0, 1] rfl (by kernel_rfl) (by decide) ?_
  refine TF.u (v := (.pointer none)) rfl rfl (pr_move rfl) ?_
  refine TF.u (v := (.bool _)) rfl rfl (pr_peql Try.underlying23 rfl rfl) ?_
  refine TF.nil (nx_then ?_)
  refine cw_condT (t := _) rfl rfl rfl ?_
  refine cw_seq ?_
  -- region 2 tape.go:99
  refine cw_region (clf [.U]) [0] rfl (by kernel_rfl) (by decide) ?_
  refine TF.u (v := (.int .u64 _)) rfl rfl (pr_assign rfl) ?_
  refine TF.nil (nx_then ?_)
  refine cw_ret (rt_then (fin1 (v := (.int .u64 _)) Try.results23 rfl rfl ?_))
  exact ⟨rfl, H.base⟩

theorem tsync_nil  (w0 : World) :
    Calls Try.prog 16 #[.pointer none] w0 fun e w => e = .returned (.int .i64 1) ∧ Below w0.heap.size w0 w := by
  refine enter (args := [.pointer none]) Try.func16 rfl Try.ntmps16 rfl ?_
  have H := Sat.start w0
  refine cw_seq ?_
  -- region 0 tape.go:30
  refine cw_region (clf [.U]) [0] rfl (by kernel_rfl) (by decide) ?_
  refine TF.u (v := (.int .i64 _)) rfl rfl (pr_assign rfl) ?_
  refine TF.nil (nx_then ?_)
  refine cw_seq ?_
  refine cw_seq ?_
  -- region 1 tape.go:31
  refine cw_region (clf [.U, .U]) [0, 1] rfl (by kernel_rfl) (by decide) ?_
  refine TF.u (v := (.pointer none)) rfl rfl (pr_move rfl) ?_
  refine TF.u (v := (.bool _)) rfl rfl (pr_peql Try.underlying23 rfl rfl) ?_
  refine TF.nil (nx_then ?_)
  refine cw_condT (t := _) rfl rfl rfl ?_
  refine cw_seq ?_
  -- region 2 tape.go:32
  refine cw_region (clf [.U]) [0] rfl (by kernel_rfl) (by decide) ?_
  refine TF.u (v := (.int .i64 _)) rfl rfl (pr_assign rfl) ?_
  refine TF.nil (nx_then ?_)
  refine cw_ret (rt_then (fin1 (v := (.int .i64 _)) Try.results16 rfl rfl ?_))
  exact ⟨rfl, H.base⟩

theorem tappend_nil (A : Option Addr) (n c : Nat) (w0 : World) :
    Calls Try.prog 12 #[.pointer none, .slice A n c] w0 fun e w => e = .returned (.int .i64 1) ∧ Below w0.heap.size w0 w := by
  refine enter (args := [.pointer none, .slice A n c]) Try.func12 rfl Try.ntmps12 rfl ?_
  have H := Sat.start w0
  refine cw_seq ?_
  -- region 0 tape.go:18
  refine cw_region (clf [.U]) [0] rfl (by kernel_rfl) (by decide) ?_
  refine TF.u (v := (.int .i64 _)) rfl rfl (pr_assign rfl) ?_
  refine TF.nil (nx_then ?_)
  refine cw_seq ?_
  refine cw_block ?_
  refine cw_seq ?_
  -- region 1 tape.go:20
  refine cw_region (clf [.U, .U, .U]) [0, 1, 2] rfl (by kernel_rfl) (by decide) ?_
  refine TF.u (v := (.pointer none)) rfl rfl (pr_move rfl) ?_
  refine TF.u (v := (.bool _)) rfl rfl (pr_peql Try.underlying23 rfl rfl) ?_
  refine TF.u (v := (.bool _)) rfl rfl (pr_assign rfl) ?_
  refine TF.nil (nx_then ?_)
  refine cw_condT (t := _) rfl rfl rfl ?_
  refine cw_seq ?_
  -- region 2 tape.go:21
  refine cw_region (clf [.U]) [0] rfl (by kernel_rfl) (by decide) ?_
  refine TF.u (v := (.int .i64 _)) rfl rfl (pr_assign rfl) ?_
  refine TF.nil (nx_then ?_)
  refine cw_ret (rt_block (rt_then (fin1 (v := (.int .i64 _)) Try.results12 rfl rfl ?_)))
  exact ⟨rfl, H.base⟩

theorem tcut_nil (k : Int) (w0 : World) :
    Calls Try.prog 18 #[.pointer none, .int .i64 k] w0 fun e w => e = .returned (.int .i64 1) ∧ Below w0.heap.size w0 w := by
  refine enter (args := [.pointer none, .int .i64 k]) Try.func18 rfl Try.ntmps18 rfl ?_
  have H := Sat.start w0
  refine cw_seq ?_
  -- region 0 tape.go:39
  refine cw_region (clf [.U]) [0] rfl (by kernel_rfl) (by decide) ?_
  refine TF.u (v := (.int .i64 _)) rfl rfl (pr_assign rfl) ?_
  refine TF.nil (nx_then ?_)
  refine cw_seq ?_
  refine cw_seq ?_
  -- region 1 tape.go:40
  refine cw_region (clf [.U, .U, .U, .U, .U, .U, .U, .U, .U, .U, .U, .X, .U, .U]) [0, 1, 2, 3, 4, 5, 6, 7, 8, 9, 10, 11, 12, 13] rfl (by kernel_rfl) (by decide) ?_
  refine TF.u (v := (.pointer none)) rfl rfl (pr_move rfl) ?_
  refine TF.u (v := (.bool _)) rfl rfl (pr_peql Try.underlying23 rfl rfl) ?_
  refine TF.u (v := (.bool _)) rfl rfl (pr_move rfl) ?_
  refine TF.skip rfl (wantF_no rfl rfl rfl rfl) ?_
  refine TF.skip rfl (wantF_no rfl rfl rfl rfl) ?_
  refine TF.u (v := (.bool _)) rfl rfl (pr_pickT rfl rfl rfl) ?_
  refine TF.u (v := (.bool _)) rfl rfl (pr_move rfl) ?_
  refine TF.skip rfl (wantF_no rfl rfl rfl rfl) ?_
  refine TF.skip rfl (wantF_no rfl rfl rfl rfl) ?_
  refine TF.skip rfl (wantF_no rfl rfl rfl rfl) ?_
  refine TF.skip rfl (wantF_no rfl rfl rfl rfl) ?_
  refine TF.skip rfl (wantF_no rfl rfl rfl rfl) ?_
  refine TF.skip rfl (wantF_no rfl rfl rfl rfl) ?_
  refine TF.u (v := (.bool _)) rfl rfl (pr_pickT rfl rfl rfl) ?_
  refine TF.nil (nx_then ?_)
  refine cw_condT (t := _) rfl rfl rfl ?_
  refine cw_seq ?_
  -- region 2 tape.go:41
  refine cw_region (clf [.U]) [0] rfl (by kernel_rfl) (by decide) ?_
  refine TF.u (v := (.int .i64 _)) rfl rfl (pr_assign rfl) ?_
  refine TF.nil (nx_then ?_)
  refine cw_ret (rt_then (fin1 (v := (.int .i64 _)) Try.results18 rfl rfl ?_))
  exact ⟨rfl, H.base⟩

theorem tchop_nil (k : Int) (w0 : World) :
    Calls Try.prog 19 #[.pointer none, .int .i64 k] w0 fun e w => e = .returned (.int .i64 1) ∧ Below w0.heap.size w0 w := by
  refine enter (args := [.pointer none, .int .i64 k]) Try.func19 rfl Try.ntmps19 rfl ?_
  have H := Sat.start w0
  refine cw_seq ?_
  -- region 0 tape.go:52
  refine cw_region (clf [.U]) [0] rfl (by kernel_rfl) (by decide) ?_
  refine TF.u (v := (.int .i64 _)) rfl rfl (pr_assign rfl) ?_
  refine TF.nil (nx_then ?_)
  refine cw_seq ?_
  refine cw_seq ?_
  -- region 1 tape.go:53
  refine cw_region (clf [.U, .U, .U, .U, .U, .U, .U, .U, .U, .U, .U, .X, .U, .U, .U]) [0, 1, 2, 3, 4, 5, 6, 7, 8, 9, 10, 11, 12, 13, 14] rfl (by kernel_rfl) (by decide) ?_
  refine TF.u (v := (.pointer none)) rfl rfl (pr_move rfl) ?_
  refine TF.u (v := (.bool _)) rfl rfl (pr_peql Try.underlying23 rfl rfl) ?_
  refine TF.u (v := (.bool _)) rfl rfl (pr_move rfl) ?_
  refine TF.skip rfl (wantF_no rfl rfl rfl rfl) ?_
  refine TF.skip rfl (wantF_no rfl rfl rfl rfl) ?_
  refine TF.u (v := (.bool _)) rfl rfl (pr_pickT rfl rfl rfl) ?_
  refine TF.u (v := (.bool _)) rfl rfl (pr_move rfl) ?_
  refine TF.skip rfl (wantF_no rfl rfl rfl rfl) ?_
  refine TF.skip rfl (wantF_no rfl rfl rfl rfl) ?_
  refine TF.skip rfl (wantF_no rfl rfl rfl rfl) ?_
  refine TF.skip rfl (wantF_no rfl rfl rfl rfl) ?_
  refine TF.skip rfl (wantF_no rfl rfl rfl rfl) ?_
  refine TF.skip rfl (wantF_no rfl rfl rfl rfl) ?_
  refine TF.skip rfl (wantF_no rfl rfl rfl rfl) ?_
  refine TF.u (v := (.bool _)) rfl rfl (pr_pickT rfl rfl rfl) ?_
  refine TF.nil (nx_then ?_)
  refine cw_condT (t := _) rfl rfl rfl ?_
  refine cw_seq ?_
  -- region 2 tape.go:54
  refine cw_region (clf [.U]) [0] rfl (by kernel_rfl) (by decide) ?_
  refine TF.u (v := (.int .i64 _)) rfl rfl (pr_assign rfl) ?_
  refine TF.nil (nx_then ?_)
  refine cw_ret (rt_then (fin1 (v := (.int .i64 _)) Try.results19 rfl rfl ?_))
  exact ⟨rfl, H.base⟩

theorem tcrash_nil (k : Int) (w0 : World) :
    Calls Try.prog 14 #[.pointer none, .int .i64 k] w0 fun e w => e = .returned (.tuple #[]) ∧ Below w0.heap.size w0 w := by
  refine enter (args := [.pointer none, .int .i64 k]) Try.func14 rfl Try.ntmps14 rfl ?_
  have H := Sat.start w0
  refine cw_seq ?_
  refine cw_seq ?_
  -- region 0 tape.go:63
  refine cw_region (clf [.U, .U]) [0, 1] rfl (by kernel_rfl) (by decide) ?_
  refine TF.u (v := (.pointer none)) rfl rfl (pr_move rfl) ?_
  refine TF.u (v := (.bool _)) rfl rfl (pr_peql Try.underlying23 rfl rfl) ?_
  refine TF.nil (nx_then ?_)
  refine cw_condT (t := _) rfl rfl rfl ?_
  refine cw_ret (rt_then (fin0 Try.results14 ?_))
  exact ⟨rfl, H.base⟩

theorem tbytes_nil  (w0 : World) :
    Calls Try.prog 13 #[.pointer none] w0 fun e w => ∃ A1 n1 c1, e = .returned (.slice A1 n1 c1) ∧ NewB w0 w 5 A1 n1 c1 [] := by
  refine enter (args := [.pointer none]) Try.func13 rfl Try.ntmps13 rfl ?_
  have H := Sat.start w0
  refine cw_seq ?_
  -- region 0 tape.go:72
  refine cw_region (clf [.U]) [0] rfl (by kernel_rfl) (by decide) ?_
  refine TF.u (v := (.slice _ _ _)) rfl rfl (pr_assign rfl) ?_
  refine TF.nil (nx_then ?_)
  refine cw_seq ?_
  -- region 1 tape.go:73
  refine cw_region (clf [.U, .X, .X, .U]) [0, 1, 2, 3] rfl (by kernel_rfl) (by decide) ?_
  refine TF.u (v := (.pointer none)) rfl rfl (pr_move rfl) ?_
  refine TF.call (args := [(.pointer none)]) Try.fn17 rfl rfl (wantF_none rfl) rfl (tlen_nil _) ?_
  rintro e_ w ⟨rfl, hb1⟩
  refine ⟨_, rfl, ?_⟩
  replace H := H.below hb1
  refine TF.make (nl := 0) (nc := 0) (z1 := undef) H rfl (Cx.xx rfl) (wantF_none rfl) Try.underlying25 (Try.ty5) (by rfl) (by rfl) (by omega) (by omega) (by unfold maxLen; omega) ?_
  clear H
  intro bk2 w hltbk2 hb3 H
  rw [made_u8] at H
  replace H := H.toOwn0 (q := 0) (sz := 1) (nc := 0) rfl (by simp [u8s_len]) (by unfold maxLen; omega)
  replace H : Sat _ _ _ [_] := H
  refine TF.u (v := (.slice _ _ _)) rfl rfl (pr_assign rfl) ?_
  refine TF.nil (nx_then ?_)
  refine cw_seq ?_
  refine cw_seq ?_
  -- region 2 tape.go:74
  refine cw_region (clf [.U, .U]) [0, 1] rfl (by kernel_rfl) (by decide) ?_
  refine TF.u (v := (.pointer none)) rfl rfl (pr_move rfl) ?_
  refine TF.u (v := (.bool _)) rfl rfl (pr_pneq Try.underlying23 rfl rfl) ?_
  refine TF.nil (nx_then ?_)
  refine cw_condF (t := _) rfl rfl rfl ?_
  refine cw_skip (nx_then ?_)
  refine cw_seq ?_
  -- region 4 tape.go:77
  refine cw_region (clf [.U, .U]) [0, 1] rfl (by kernel_rfl) (by decide) ?_
  refine TF.u (v := (.slice _ _ _)) rfl rfl (pr_move rfl) ?_
  refine TF.u (v := (.slice _ _ _)) rfl rfl (pr_assign rfl) ?_
  refine TF.nil (nx_then ?_)
  refine cw_ret (fin1 (v := (.slice _ _ _)) Try.results13 rfl rfl ?_)
  exact ⟨_, _, _, rfl, H.toNew (k := 0) rfl⟩

theorem rtappend_ok (tb : Nat) (s : TS) (F : List Nat) (b : List UInt8) (w0 : World) (hF : (cRTape 49 tb (s)).p w0 F) (ok : TOk s) (hb : b.length ≤ 140737488351232) :
    Calls Try.prog 25 #[.pointer (some ⟨tb, 0, none⟩), T b] w0 fun e w => e = .returned (.int .i64 (tAppend s b).2) ∧ Upd (cRTape 49 tb ((tAppend s b).1)) F w0 w ∧ TOk ((tAppend s b).1) := by
  refine enter (args := [.pointer (some ⟨tb, 0, none⟩), T b]) Try.func25 rfl Try.ntmps25 rfl ?_
  have hokp := tAppend_ok ok b
  have H := Sat.start1 hF
  replace H : Sat F w0 w0 [cBlk tb 49 [T s.bs, .int .i64 (s.fast : Int), .int .i64 (s.room : Int), .int .u64 (s.start : Int)]] := H
  obtain ⟨hk1, hk2, hk3, hk4⟩ := ok
  refine cw_seq ?_
  -- region 0 ref.go:16
  refine cw_region (clf [.U]) [0] rfl (by kernel_rfl) (by decide) ?_
  refine TF.u (v := (.int .i64 _)) rfl rfl (pr_assign rfl) ?_
  refine TF.nil (nx_then ?_)
  refine cw_seq ?_
  refine cw_seq ?_
  -- region 1 ref.go:17
  refine cw_drawS H Try.wide_ (clf [.U, .U, .U, .U, .U, .R, .U, .U, .U, .R, .U, .U, .U]) [0, 1, 2, 3, 4, 5, 6, 7, 8, 9, 10, 11, 12] (by kernel_rfl) (by kernel_rfl) ?_
  clear H
  intro w hbr H hB
  refine TF.u (v := (T _)) rfl rfl (pr_move rfl) ?_
  refine TF.u (v := (.int .i64 _)) rfl rfl (pr_slen rfl Try.underlying9 rfl) ?_
  refine TF.u (v := (.pointer (some ⟨_, 0, none⟩))) rfl rfl (pr_move rfl) ?_
  refine TF.u (v := (.pointer (some _))) rfl rfl (pr_nil rfl) ?_
  refine TF.u (v := (.pointer (some ⟨_, 2, none⟩))) rfl rfl (pr_field (o' := 2) Try.underlying49 rfl (Try.ty3.s) (by decide) rfl rfl) ?_
  refine TF.loadr (v := (.int .i64 _)) rfl rfl (wantF_none rfl) Try.underlying3 rfl rfl ((H.blk (k := 0) rfl).atB rfl) ?_
  refine TF.u (v := (.pointer (some ⟨_, 0, none⟩))) rfl rfl (pr_move rfl) ?_
  refine TF.u (v := (.pointer (some _))) rfl rfl (pr_nil rfl) ?_
  refine TF.u (v := (.pointer (some ⟨_, 0, none⟩))) rfl rfl (pr_field (o' := 0) Try.underlying49 rfl (Try.ty9.s) (by decide) rfl rfl) ?_
  refine TF.loadr (v := (T _)) rfl rfl (wantF_none rfl) Try.underlying9 rfl rfl ((H.blk (k := 0) rfl).atB rfl) ?_
  refine TF.u (v := (.int .i64 _)) rfl rfl (pr_slen rfl Try.underlying9 rfl) ?_
  refine TF.u (v := (.int .i64 _)) rfl rfl (pr_sub rfl rfl (IntWalk.i64_in _ (by omega))) ?_
  refine TF.u (v := (.bool _)) rfl rfl (pr_gtr rfl rfl) ?_
  clear hB
  refine TF.nil (nx_then ?_)
  refine cw_cond _ rfl rfl (fun hq2 => ?_) (fun hq2 => ?_)
  ·
    have hp2 := dT hq2
    refine cw_seq ?_
    -- region 2 ref.go:18
    refine cw_region (clf [.U]) [0] rfl (by kernel_rfl) (by decide) ?_
    refine TF.u (v := (.int .i64 _)) rfl rfl (pr_assign rfl) ?_
    refine TF.nil (nx_then ?_)
    refine cw_ret (rt_then (fin1 (v := (.int .i64 _)) Try.results25 rfl rfl ?_))
    rw [tAppend_no (by omega)] at hokp ⊢
    have H9 : Sat F w0 _ [cRTape 49 tb (s)] := H
    exact ⟨rfl, H9.toUpd (k := 0) rfl, hokp⟩
  ·
    have hp2 := dF hq2
    refine cw_skip (nx_then ?_)
    refine cw_seq ?_
    -- region 3 ref.go:20
    refine cw_region (clf [.U, .U, .U, .U, .X, .U, .U, .U, .U, .X]) [0, 1, 2, 3, 4, 5, 6, 7, 8, 9] rfl (by kernel_rfl) (by decide) ?_
    refine TF.u (v := (.pointer (some ⟨_, 0, none⟩))) rfl rfl (pr_move rfl) ?_
    refine TF.u (v := (.pointer (some ⟨_, 0, none⟩))) rfl rfl (pr_move rfl) ?_
    refine TF.u (v := (.pointer (some _))) rfl rfl (pr_nil rfl) ?_
    refine TF.u (v := (.pointer (some ⟨_, 0, none⟩))) rfl rfl (pr_field (o' := 0) Try.underlying49 rfl (Try.ty9.s) (by decide) rfl rfl) ?_
    refine TF.load (v := (T _)) rfl rfl (wantF_none rfl) Try.underlying9 rfl rfl ((H.blk (k := 0) rfl).at_ rfl) ?_
    refine TF.u (v := (T _)) rfl rfl (pr_move rfl) ?_
    refine TF.u (v := (T _)) rfl rfl (pr_sadd rfl rfl (by omega)) ?_
    refine TF.u (v := (.pointer (some _))) rfl rfl (pr_nil rfl) ?_
    refine TF.u (v := (.pointer (some ⟨_, 0, none⟩))) rfl rfl (pr_field (o' := 0) Try.underlying49 rfl (Try.ty9.s) (by decide) rfl rfl) ?_
    refine TF.store (v := (T _)) (q := 0) H rfl rfl rfl (wantF_none rfl) (Try.ty9.s) rfl rfl rfl rfl ?_
    clear H
    intro w ho3 H
    replace H : Sat _ _ _ [_] := H
    refine TF.nil (nx_then ?_)
    refine cw_seq ?_
    -- region 4 ref.go:21
    refine cw_region (clf [.U]) [0] rfl (by kernel_rfl) (by decide) ?_
    refine TF.u (v := (.int .i64 _)) rfl rfl (pr_assign rfl) ?_
    refine TF.nil (nx_then ?_)
    refine cw_ret (fin1 (v := (.int .i64 _)) Try.results25 rfl rfl ?_)
    rw [tAppend_yes (by omega)] at hokp ⊢
    have H9 : Sat F w0 _ [cRTape 49 tb (⟨s.bs ++ b, s.fast, s.room, s.start⟩)] := H
    exact ⟨rfl, H9.toUpd (k := 0) rfl, hokp⟩

theorem rtsync_ok (tb : Nat) (s : TS) (F : List Nat)  (w0 : World) (hF : (cRTape 49 tb (s)).p w0 F) (ok : TOk s)  :
    Calls Try.prog 26 #[.pointer (some ⟨tb, 0, none⟩)] w0 fun e w => e = .returned (.tuple #[]) ∧ Upd (cRTape 49 tb (tSync s)) F w0 w ∧ TOk (tSync s) := by
  refine enter (args := [.pointer (some ⟨tb, 0, none⟩)]) Try.func26 rfl Try.ntmps26 rfl ?_
  have hokp := tSync_ok ok
  have H := Sat.start1 hF
  replace H : Sat F w0 w0 [cBlk tb 49 [T s.bs, .int .i64 (s.fast : Int), .int .i64 (s.room : Int), .int .u64 (s.start : Int)]] := H
  obtain ⟨hk1, hk2, hk3, hk4⟩ := ok
  -- region 0 ref.go:25
  refine cw_region (clf [.U, .U, .U, .U, .X, .U, .U, .U, .X]) [0, 1, 2, 3, 4, 5, 6, 7, 8] rfl (by kernel_rfl) (by decide) ?_
  refine TF.u (v := (.pointer (some ⟨_, 0, none⟩))) rfl rfl (pr_move rfl) ?_
  refine TF.u (v := (.pointer (some ⟨_, 0, none⟩))) rfl rfl (pr_move rfl) ?_
  refine TF.u (v := (.pointer (some _))) rfl rfl (pr_nil rfl) ?_
  refine TF.u (v := (.pointer (some ⟨_, 0, none⟩))) rfl rfl (pr_field (o' := 0) Try.underlying49 rfl (Try.ty9.s) (by decide) rfl rfl) ?_
  refine TF.load (v := (T _)) rfl rfl (wantF_none rfl) Try.underlying9 rfl rfl ((H.blk (k := 0) rfl).at_ rfl) ?_
  refine TF.u (v := (.int .i64 _)) rfl rfl (pr_slen rfl Try.underlying9 rfl) ?_
  refine TF.u (v := (.pointer (some _))) rfl rfl (pr_nil rfl) ?_
  refine TF.u (v := (.pointer (some ⟨_, 1, none⟩))) rfl rfl (pr_field (o' := 1) Try.underlying49 rfl (Try.ty3.s) (by decide) rfl rfl) ?_
  refine TF.store (v := (.int .i64 _)) (q := 0) H rfl rfl rfl (wantF_none rfl) (Try.ty3.s) rfl rfl rfl rfl ?_
  clear H
  intro w ho1 H
  replace H : Sat _ _ _ [_] := H
  refine TF.nil (fin0n Try.results26 ?_)
  have H9 : Sat F w0 _ [cRTape 49 tb (tSync s)] := H
  exact ⟨rfl, H9.toUpd (k := 0) rfl, hokp⟩

theorem rtcut_ok (tb : Nat) (s : TS) (F : List Nat) (k : Int) (w0 : World) (hF : (cRTape 49 tb (s)).p w0 F) (ok : TOk s) (hk5 : -9223372036854775808 ≤ k) (hk6 : k ≤ 9223372036854775807) :
    Calls Try.prog 27 #[.pointer (some ⟨tb, 0, none⟩), .int .i64 k] w0 fun e w => e = .returned (.int .i64 (tCut s k).2) ∧ Upd (cRTape 49 tb ((tCut s k).1)) F w0 w ∧ TOk ((tCut s k).1) := by
  refine enter (args := [.pointer (some ⟨tb, 0, none⟩), .int .i64 k]) Try.func27 rfl Try.ntmps27 rfl ?_
  have hokp := tCut_ok ok k
  have H := Sat.start1 hF
  replace H : Sat F w0 w0 [cBlk tb 49 [T s.bs, .int .i64 (s.fast : Int), .int .i64 (s.room : Int), .int .u64 (s.start : Int)]] := H
  obtain ⟨hk1, hk2, hk3, hk4⟩ := ok
  refine cw_seq ?_
  -- region 0 ref.go:28
  refine cw_region (clf [.U]) [0] rfl (by kernel_rfl) (by decide) ?_
  refine TF.u (v := (.int .i64 _)) rfl rfl (pr_assign rfl) ?_
  refine TF.nil (nx_then ?_)
  refine cw_seq ?_
  refine cw_seq ?_
  -- region 1 ref.go:29
  refine cw_region (clf [.U, .U, .U, .U, .U, .U, .U, .X, .U, .U]) [0, 1, 2, 3, 4, 5, 6, 7, 8, 9] rfl (by kernel_rfl) (by decide) ?_
  refine TF.u (v := (.int .i64 _)) rfl rfl (pr_move rfl) ?_
  refine TF.u (v := (.bool _)) rfl rfl (pr_lss rfl rfl) ?_
  refine TF.u (v := (.bool _)) rfl rfl (pr_move rfl) ?_
  refine TF.split (dj := 7) rfl (fun hq2 => ?_) (fun hq2 => ?_)
  ·
    have hp2 := dT hq2
    refine TF.skip rfl (wantF_no rfl rfl rfl hq2) ?_
    refine TF.skip rfl (wantF_no rfl rfl rfl hq2) ?_
    refine TF.skip rfl (wantF_no rfl rfl rfl hq2) ?_
    refine TF.skip rfl (wantF_no rfl rfl rfl hq2) ?_
    refine TF.skip rfl (wantF_no rfl rfl rfl hq2) ?_
    refine TF.skip rfl (wantF_no rfl rfl rfl hq2) ?_
    refine TF.u (v := (.bool _)) rfl rfl (pr_pickT rfl hq2 rfl) ?_
    refine TF.nil (nx_then ?_)
    refine cw_condT (t := _) rfl rfl rfl ?_
    refine cw_seq ?_
    -- region 2 ref.go:30
    refine cw_region (clf [.U]) [0] rfl (by kernel_rfl) (by decide) ?_
    refine TF.u (v := (.int .i64 _)) rfl rfl (pr_assign rfl) ?_
    refine TF.nil (nx_then ?_)
    refine cw_ret (rt_then (fin1 (v := (.int .i64 _)) Try.results27 rfl rfl ?_))
    rw [tCut_no (by omega)] at hokp ⊢
    have H9 : Sat F w0 _ [cRTape 49 tb (s)] := H
    exact ⟨rfl, H9.toUpd (k := 0) rfl, hokp⟩
  ·
    have hp2 := dF hq2
    refine TF.ug (v := (.int .i64 _)) rfl rfl (wantF_yes rfl rfl rfl hq2) (pr_move rfl) ?_
    refine TF.ug (v := (.pointer (some ⟨_, 0, none⟩))) rfl rfl (wantF_yes rfl rfl rfl hq2) (pr_move rfl) ?_
    refine TF.ug (v := (.pointer (some _))) rfl rfl (wantF_yes rfl rfl rfl hq2) (pr_nil rfl) ?_
    refine TF.ug (v := (.pointer (some ⟨_, 1, none⟩))) rfl rfl (wantF_yes rfl rfl rfl hq2) (pr_field (o' := 1) Try.underlying49 rfl (Try.ty3.s) (by decide) rfl rfl) ?_
    refine TF.load (v := (.int .i64 _)) rfl rfl (wantF_yes rfl rfl rfl hq2) Try.underlying3 rfl rfl ((H.blk (k := 0) rfl).at_ rfl) ?_
    refine TF.ug (v := (.bool _)) rfl rfl (wantF_yes rfl rfl rfl hq2) (pr_gtr rfl rfl) ?_
    refine TF.u (v := (.bool _)) rfl rfl (pr_pickF rfl hq2 rfl) ?_
    refine TF.nil (nx_then ?_)
    refine cw_cond _ rfl rfl (fun hq4 => ?_) (fun hq4 => ?_)
    ·
      have hp4 := dT hq4
      refine cw_seq ?_
      -- region 2 ref.go:30
      refine cw_region (clf [.U]) [0] rfl (by kernel_rfl) (by decide) ?_
      refine TF.u (v := (.int .i64 _)) rfl rfl (pr_assign rfl) ?_
      refine TF.nil (nx_then ?_)
      refine cw_ret (rt_then (fin1 (v := (.int .i64 _)) Try.results27 rfl rfl ?_))
      rw [tCut_no (by omega)] at hokp ⊢
      have H9 : Sat F w0 _ [cRTape 49 tb (s)] := H
      exact ⟨rfl, H9.toUpd (k := 0) rfl, hokp⟩
    ·
      have hp4 := dF hq4
      refine cw_skip (nx_then ?_)
      refine cw_seq ?_
      -- region 3 ref.go:32
      refine cw_region (clf [.U, .U, .U, .U, .X, .U, .U, .U, .U, .X]) [0, 1, 2, 3, 4, 5, 6, 7, 8, 9] rfl (by kernel_rfl) (by decide) ?_
      obtain ⟨m, rfl⟩ := Int.eq_ofNat_of_zero_le (show 0 ≤ k by omega)
      refine TF.u (v := (.pointer (some ⟨_, 0, none⟩))) rfl rfl (pr_move rfl) ?_
      refine TF.u (v := (.pointer (some ⟨_, 0, none⟩))) rfl rfl (pr_move rfl) ?_
      refine TF.u (v := (.pointer (some _))) rfl rfl (pr_nil rfl) ?_
      refine TF.u (v := (.pointer (some ⟨_, 0, none⟩))) rfl rfl (pr_field (o' := 0) Try.underlying49 rfl (Try.ty9.s) (by decide) rfl rfl) ?_
      refine TF.load (v := (T _)) rfl rfl (wantF_none rfl) Try.underlying9 rfl rfl ((H.blk (k := 0) rfl).at_ rfl) ?_
      refine TF.u (v := (.int .i64 _)) rfl rfl (pr_move rfl) ?_
      refine TF.u (v := (T _)) rfl rfl (pr_sslice (l := m) (h := s.bs.length) Try.underlying9 rfl (.inr ⟨_, _, rfl, rfl⟩) (.inl ⟨rfl, rfl⟩) (by omega) (by omega)) ?_
      refine TF.u (v := (.pointer (some _))) rfl rfl (pr_nil rfl) ?_
      refine TF.u (v := (.pointer (some ⟨_, 0, none⟩))) rfl rfl (pr_field (o' := 0) Try.underlying49 rfl (Try.ty9.s) (by decide) rfl rfl) ?_
      refine TF.store (v := (T _)) (q := 0) H rfl rfl rfl (wantF_none rfl) (Try.ty9.s) rfl rfl rfl rfl ?_
      clear H
      intro w ho5 H
      replace H : Sat _ _ _ [_] := H
      rw [List.take_length] at H
      refine TF.nil (nx_then ?_)
      refine cw_seq ?_
      -- region 4 ref.go:33
      refine cw_region (clf [.U, .U, .U, .U, .X, .U, .U, .U, .U, .X]) [0, 1, 2, 3, 4, 5, 6, 7, 8, 9] rfl (by kernel_rfl) (by decide) ?_
      refine TF.u (v := (.pointer (some ⟨_, 0, none⟩))) rfl rfl (pr_move rfl) ?_
      refine TF.u (v := (.pointer (some ⟨_, 0, none⟩))) rfl rfl (pr_move rfl) ?_
      refine TF.u (v := (.pointer (some _))) rfl rfl (pr_nil rfl) ?_
      refine TF.u (v := (.pointer (some ⟨_, 1, none⟩))) rfl rfl (pr_field (o' := 1) Try.underlying49 rfl (Try.ty3.s) (by decide) rfl rfl) ?_
      refine TF.load (v := (.int .i64 _)) rfl rfl (wantF_none rfl) Try.underlying3 rfl rfl ((H.blk (k := 0) rfl).at_ rfl) ?_
      refine TF.u (v := (.int .i64 _)) rfl rfl (pr_move rfl) ?_
      refine TF.u (v := (.int .i64 _)) rfl rfl (pr_sub rfl rfl (show _ = ((s.fast - m : Nat) : Int) from (IntWalk.i64_in _ (by omega)).trans (by omega))) ?_
      refine TF.u (v := (.pointer (some _))) rfl rfl (pr_nil rfl) ?_
      refine TF.u (v := (.pointer (some ⟨_, 1, none⟩))) rfl rfl (pr_field (o' := 1) Try.underlying49 rfl (Try.ty3.s) (by decide) rfl rfl) ?_
      refine TF.store (v := (.int .i64 _)) (q := 0) H rfl rfl rfl (wantF_none rfl) (Try.ty3.s) rfl rfl rfl rfl ?_
      clear H
      intro w ho6 H
      replace H : Sat _ _ _ [_] := H
      refine TF.nil (nx_then ?_)
      refine cw_seq ?_
      -- region 5 ref.go:34
      refine cw_region (clf [.U, .U, .U, .U, .X, .U, .U, .U, .U, .U, .X]) [0, 1, 2, 3, 4, 5, 6, 7, 8, 9, 10] rfl (by kernel_rfl) (by decide) ?_
      refine TF.u (v := (.pointer (some ⟨_, 0, none⟩))) rfl rfl (pr_move rfl) ?_
      refine TF.u (v := (.pointer (some ⟨_, 0, none⟩))) rfl rfl (pr_move rfl) ?_
      refine TF.u (v := (.pointer (some _))) rfl rfl (pr_nil rfl) ?_
      refine TF.u (v := (.pointer (some ⟨_, 3, none⟩))) rfl rfl (pr_field (o' := 3) Try.underlying49 rfl (Try.ty42.s) (by decide) rfl rfl) ?_
      refine TF.load (v := (.int .u64 _)) rfl rfl (wantF_none rfl) Try.underlying42 rfl rfl ((H.blk (k := 0) rfl).at_ rfl) ?_
      refine TF.u (v := (.int .i64 _)) rfl rfl (pr_move rfl) ?_
      refine TF.u (v := (.int .u64 _)) rfl rfl (pr_conv Try.underlying3 Try.underlying42 rfl (IntWalk.u64_in _ (by omega))) ?_
      refine TF.u (v := (.int .u64 _)) rfl rfl (pr_add rfl rfl (addu64 _ _)) ?_
      refine TF.u (v := (.pointer (some _))) rfl rfl (pr_nil rfl) ?_
      refine TF.u (v := (.pointer (some ⟨_, 3, none⟩))) rfl rfl (pr_field (o' := 3) Try.underlying49 rfl (Try.ty42.s) (by decide) rfl rfl) ?_
      refine TF.store (v := (.int .u64 _)) (q := 0) H rfl rfl rfl (wantF_none rfl) (Try.ty42.s) rfl rfl rfl rfl ?_
      clear H
      intro w ho7 H
      replace H : Sat _ _ _ [_] := H
      refine TF.nil (nx_then ?_)
      refine cw_seq ?_
      -- region 6 ref.go:35
      refine cw_region (clf [.U]) [0] rfl (by kernel_rfl) (by decide) ?_
      refine TF.u (v := (.int .i64 _)) rfl rfl (pr_assign rfl) ?_
      refine TF.nil (nx_then ?_)
      refine cw_ret (fin1 (v := (.int .i64 _)) Try.results27 rfl rfl ?_)
      rw [tCut_yes (by omega)] at hokp ⊢
      have H9 : Sat F w0 _ [cRTape 49 tb (⟨s.bs.drop m, s.fast - m, s.room, (s.start + m) % 18446744073709551616⟩)] := H
      exact ⟨rfl, H9.toUpd (k := 0) rfl, hokp⟩

theorem rtchop_ok (tb : Nat) (s : TS) (F : List Nat) (k : Int) (w0 : World) (hF : (cRTape 49 tb (s)).p w0 F) (ok : TOk s) (hk5 : -9223372036854775808 ≤ k) (hk6 : k ≤ 9223372036854775807) :
    Calls Try.prog 28 #[.pointer (some ⟨tb, 0, none⟩), .int .i64 k] w0 fun e w => e = .returned (.int .i64 (tChop s k).2) ∧ Upd (cRTape 49 tb ((tChop s k).1)) F w0 w ∧ TOk ((tChop s k).1) := by
  refine enter (args := [.pointer (some ⟨tb, 0, none⟩), .int .i64 k]) Try.func28 rfl Try.ntmps28 rfl ?_
  have hokp := tChop_ok ok k
  have H := Sat.start1 hF
  replace H : Sat F w0 w0 [cBlk tb 49 [T s.bs, .int .i64 (s.fast : Int), .int .i64 (s.room : Int), .int .u64 (s.start : Int)]] := H
  obtain ⟨hk1, hk2, hk3, hk4⟩ := ok
  refine cw_seq ?_
  -- region 0 ref.go:39
  refine cw_region (clf [.U]) [0] rfl (by kernel_rfl) (by decide) ?_
  refine TF.u (v := (.int .i64 _)) rfl rfl (pr_assign rfl) ?_
  refine TF.nil (nx_then ?_)
  refine cw_seq ?_
  refine cw_seq ?_
  -- region 1 ref.go:40
  refine cw_region (clf [.U, .U, .U, .U, .U, .U, .U, .X, .U, .U, .U]) [0, 1, 2, 3, 4, 5, 6, 7, 8, 9, 10] rfl (by kernel_rfl) (by decide) ?_
  refine TF.u (v := (.int .i64 _)) rfl rfl (pr_move rfl) ?_
  refine TF.u (v := (.bool _)) rfl rfl (pr_lss rfl rfl) ?_
  refine TF.u (v := (.bool _)) rfl rfl (pr_move rfl) ?_
  refine TF.split (dj := 7) rfl (fun hq2 => ?_) (fun hq2 => ?_)
  ·
    have hp2 := dT hq2
    refine TF.skip rfl (wantF_no rfl rfl rfl hq2) ?_
    refine TF.skip rfl (wantF_no rfl rfl rfl hq2) ?_
    refine TF.skip rfl (wantF_no rfl rfl rfl hq2) ?_
    refine TF.skip rfl (wantF_no rfl rfl rfl hq2) ?_
    refine TF.skip rfl (wantF_no rfl rfl rfl hq2) ?_
    refine TF.skip rfl (wantF_no rfl rfl rfl hq2) ?_
    refine TF.skip rfl (wantF_no rfl rfl rfl hq2) ?_
    refine TF.u (v := (.bool _)) rfl rfl (pr_pickT rfl hq2 rfl) ?_
    refine TF.nil (nx_then ?_)
    refine cw_condT (t := _) rfl rfl rfl ?_
    refine cw_seq ?_
    -- region 2 ref.go:41
    refine cw_region (clf [.U]) [0] rfl (by kernel_rfl) (by decide) ?_
    refine TF.u (v := (.int .i64 _)) rfl rfl (pr_assign rfl) ?_
    refine TF.nil (nx_then ?_)
    refine cw_ret (rt_then (fin1 (v := (.int .i64 _)) Try.results28 rfl rfl ?_))
    rw [tChop_no (by omega)] at hokp ⊢
    have H9 : Sat F w0 _ [cRTape 49 tb (s)] := H
    exact ⟨rfl, H9.toUpd (k := 0) rfl, hokp⟩
  ·
    have hp2 := dF hq2
    refine TF.ug (v := (.int .i64 _)) rfl rfl (wantF_yes rfl rfl rfl hq2) (pr_move rfl) ?_
    refine TF.ug (v := (.pointer (some ⟨_, 0, none⟩))) rfl rfl (wantF_yes rfl rfl rfl hq2) (pr_move rfl) ?_
    refine TF.ug (v := (.pointer (some _))) rfl rfl (wantF_yes rfl rfl rfl hq2) (pr_nil rfl) ?_
    refine TF.ug (v := (.pointer (some ⟨_, 0, none⟩))) rfl rfl (wantF_yes rfl rfl rfl hq2) (pr_field (o' := 0) Try.underlying49 rfl (Try.ty9.s) (by decide) rfl rfl) ?_
    refine TF.load (v := (T _)) rfl rfl (wantF_yes rfl rfl rfl hq2) Try.underlying9 rfl rfl ((H.blk (k := 0) rfl).at_ rfl) ?_
    refine TF.ug (v := (.int .i64 _)) rfl rfl (wantF_yes rfl rfl rfl hq2) (pr_slen rfl Try.underlying9 rfl) ?_
    refine TF.ug (v := (.bool _)) rfl rfl (wantF_yes rfl rfl rfl hq2) (pr_gtr rfl rfl) ?_
    refine TF.u (v := (.bool _)) rfl rfl (pr_pickF rfl hq2 rfl) ?_
    refine TF.nil (nx_then ?_)
    refine cw_cond _ rfl rfl (fun hq4 => ?_) (fun hq4 => ?_)
    ·
      have hp4 := dT hq4
      refine cw_seq ?_
      -- region 2 ref.go:41
      refine cw_region (clf [.U]) [0] rfl (by kernel_rfl) (by decide) ?_
      refine TF.u (v := (.int .i64 _)) rfl rfl (pr_assign rfl) ?_
      refine TF.nil (nx_then ?_)
      refine cw_ret (rt_then (fin1 (v := (.int .i64 _)) Try.results28 rfl rfl ?_))
      rw [tChop_no (by omega)] at hokp ⊢
      have H9 : Sat F w0 _ [cRTape 49 tb (s)] := H
      exact ⟨rfl, H9.toUpd (k := 0) rfl, hokp⟩
    ·
      have hp4 := dF hq4
      refine cw_skip (nx_then ?_)
      refine cw_seq ?_
      -- region 3 ref.go:43
      refine cw_region (clf [.U, .U, .U, .U, .X, .U, .U, .U, .U, .X]) [0, 1, 2, 3, 4, 5, 6, 7, 8, 9] rfl (by kernel_rfl) (by decide) ?_
      obtain ⟨m, rfl⟩ := Int.eq_ofNat_of_zero_le (show 0 ≤ k by omega)
      refine TF.u (v := (.pointer (some ⟨_, 0, none⟩))) rfl rfl (pr_move rfl) ?_
      refine TF.u (v := (.pointer (some ⟨_, 0, none⟩))) rfl rfl (pr_move rfl) ?_
      refine TF.u (v := (.pointer (some _))) rfl rfl (pr_nil rfl) ?_
      refine TF.u (v := (.pointer (some ⟨_, 0, none⟩))) rfl rfl (pr_field (o' := 0) Try.underlying49 rfl (Try.ty9.s) (by decide) rfl rfl) ?_
      refine TF.load (v := (T _)) rfl rfl (wantF_none rfl) Try.underlying9 rfl rfl ((H.blk (k := 0) rfl).at_ rfl) ?_
      refine TF.u (v := (.int .i64 _)) rfl rfl (pr_move rfl) ?_
      refine TF.u (v := (T _)) rfl rfl (pr_sslice (l := 0) (h := m) Try.underlying9 rfl (.inl ⟨rfl, rfl⟩) (.inr ⟨_, _, rfl, rfl⟩) (by omega) (by omega)) ?_
      refine TF.u (v := (.pointer (some _))) rfl rfl (pr_nil rfl) ?_
      refine TF.u (v := (.pointer (some ⟨_, 0, none⟩))) rfl rfl (pr_field (o' := 0) Try.underlying49 rfl (Try.ty9.s) (by decide) rfl rfl) ?_
      refine TF.store (v := (T _)) (q := 0) H rfl rfl rfl (wantF_none rfl) (Try.ty9.s) rfl rfl rfl rfl ?_
      clear H
      intro w ho5 H
      replace H : Sat _ _ _ [_] := H
      refine TF.nil (nx_then ?_)
      refine cw_seq ?_
      -- region 4 ref.go:44
      refine cw_region (clf [.U, .U, .U, .U, .X, .U, .U, .U, .U, .X]) [0, 1, 2, 3, 4, 5, 6, 7, 8, 9] rfl (by kernel_rfl) (by decide) ?_
      refine TF.u (v := (.pointer (some ⟨_, 0, none⟩))) rfl rfl (pr_move rfl) ?_
      refine TF.u (v := (.pointer (some ⟨_, 0, none⟩))) rfl rfl (pr_move rfl) ?_
      refine TF.u (v := (.pointer (some _))) rfl rfl (pr_nil rfl) ?_
      refine TF.u (v := (.pointer (some ⟨_, 1, none⟩))) rfl rfl (pr_field (o' := 1) Try.underlying49 rfl (Try.ty3.s) (by decide) rfl rfl) ?_
      refine TF.load (v := (.int .i64 _)) rfl rfl (wantF_none rfl) Try.underlying3 rfl rfl ((H.blk (k := 0) rfl).at_ rfl) ?_
      refine TF.u (v := (.int .i64 _)) rfl rfl (pr_move rfl) ?_
      refine TF.u (v := (.int .i64 _)) rfl rfl (pr_min2 rfl rfl (show _ = ((min s.fast m : Nat) : Int) by omega)) ?_
      refine TF.u (v := (.pointer (some _))) rfl rfl (pr_nil rfl) ?_
      refine TF.u (v := (.pointer (some ⟨_, 1, none⟩))) rfl rfl (pr_field (o' := 1) Try.underlying49 rfl (Try.ty3.s) (by decide) rfl rfl) ?_
      refine TF.store (v := (.int .i64 _)) (q := 0) H rfl rfl rfl (wantF_none rfl) (Try.ty3.s) rfl rfl rfl rfl ?_
      clear H
      intro w ho6 H
      replace H : Sat _ _ _ [_] := H
      refine TF.nil (nx_then ?_)
      refine cw_seq ?_
      -- region 5 ref.go:45
      refine cw_region (clf [.U]) [0] rfl (by kernel_rfl) (by decide) ?_
      refine TF.u (v := (.int .i64 _)) rfl rfl (pr_assign rfl) ?_
      refine TF.nil (nx_then ?_)
      refine cw_ret (fin1 (v := (.int .i64 _)) Try.results28 rfl rfl ?_)
      rw [tChop_yes (by omega)] at hokp ⊢
      have H9 : Sat F w0 _ [cRTape 49 tb (⟨s.bs.take m, min s.fast m, s.room, s.start⟩)] := H
      exact ⟨rfl, H9.toUpd (k := 0) rfl, hokp⟩

theorem rtcrash_ok (tb : Nat) (s : TS) (F : List Nat) (k : Int) (w0 : World) (hF : (cRTape 49 tb (s)).p w0 F) (ok : TOk s) (hk5 : -9223372036854775808 ≤ k) (hk6 : k ≤ 9223372036854775807) :
    Calls Try.prog 29 #[.pointer (some ⟨tb, 0, none⟩), .int .i64 k] w0 fun e w => e = .returned (.tuple #[]) ∧ Upd (cRTape 49 tb (tCrash s k)) F w0 w ∧ TOk (tCrash s k) := by
  refine enter (args := [.pointer (some ⟨tb, 0, none⟩), .int .i64 k]) Try.func29 rfl Try.ntmps29 rfl ?_
  have hokp := tCrash_ok ok k
  have H := Sat.start1 hF
  replace H : Sat F w0 w0 [cBlk tb 49 [T s.bs, .int .i64 (s.fast : Int), .int .i64 (s.room : Int), .int .u64 (s.start : Int)]] := H
  obtain ⟨hk1, hk2, hk3, hk4⟩ := ok
  refine cw_seq ?_
  -- region 0 ref.go:50
  refine cw_drawS H Try.wide_ (clf [.U, .U, .U, .R, .U, .U, .U, .U, .R, .U, .U]) [0, 1, 2, 3, 4, 5, 6, 7, 8, 9, 10] (by kernel_rfl) (by kernel_rfl) ?_
  clear H
  intro w hbr H hB
  refine TF.u (v := (.pointer (some ⟨_, 0, none⟩))) rfl rfl (pr_move rfl) ?_
  refine TF.u (v := (.pointer (some _))) rfl rfl (pr_nil rfl) ?_
  refine TF.u (v := (.pointer (some ⟨_, 0, none⟩))) rfl rfl (pr_field (o' := 0) Try.underlying49 rfl (Try.ty9.s) (by decide) rfl rfl) ?_
  refine TF.loadr (v := (T _)) rfl rfl (wantF_none rfl) Try.underlying9 rfl rfl ((H.blk (k := 0) rfl).atB rfl) ?_
  refine TF.u (v := (.int .i64 _)) rfl rfl (pr_slen rfl Try.underlying9 rfl) ?_
  refine TF.u (v := (.pointer (some ⟨_, 0, none⟩))) rfl rfl (pr_move rfl) ?_
  refine TF.u (v := (.pointer (some _))) rfl rfl (pr_nil rfl) ?_
  refine TF.u (v := (.pointer (some ⟨_, 1, none⟩))) rfl rfl (pr_field (o' := 1) Try.underlying49 rfl (Try.ty3.s) (by decide) rfl rfl) ?_
  refine TF.loadr (v := (.int .i64 _)) rfl rfl (wantF_none rfl) Try.underlying3 rfl rfl ((H.blk (k := 0) rfl).atB rfl) ?_
  refine TF.u (v := (.int .i64 _)) rfl rfl (pr_sub rfl rfl (IntWalk.i64_in _ (by omega))) ?_
  refine TF.u (v := (.int .i64 _)) rfl rfl (pr_assign rfl) ?_
  clear hB
  refine TF.nil (nx_then ?_)
  refine cw_seq ?_
  -- region 1 ref.go:51
  refine cw_drawS H Try.wide_ (clf [.U, .U, .U, .U, .R, .U, .U, .U, .R, .U, .U, .U, .U, .U, .U, .U, .U, .X]) [0, 1, 2, 3, 4, 5, 6, 7, 8, 9, 10, 11, 12, 13, 14, 15, 16, 17] (by kernel_rfl) (by kernel_rfl) ?_
  clear H
  intro w hbr H hB
  have hle := tLeft_le ⟨hk1, hk2, hk3, hk4⟩ k
  have hlt : ((s.bs.take (tLeft s k)).length : Int) = ((tLeft s k : Nat) : Int) := by rw [List.length_take]; omega
  refine TF.u (v := (.pointer (some ⟨_, 0, none⟩))) rfl rfl (pr_move rfl) ?_
  refine TF.u (v := (.pointer (some ⟨_, 0, none⟩))) rfl rfl (pr_move rfl) ?_
  refine TF.u (v := (.pointer (some _))) rfl rfl (pr_nil rfl) ?_
  refine TF.u (v := (.pointer (some ⟨_, 0, none⟩))) rfl rfl (pr_field (o' := 0) Try.underlying49 rfl (Try.ty9.s) (by decide) rfl rfl) ?_
  refine TF.loadr (v := (T _)) rfl rfl (wantF_none rfl) Try.underlying9 rfl rfl ((H.blk (k := 0) rfl).atB rfl) ?_
  refine TF.u (v := (.pointer (some ⟨_, 0, none⟩))) rfl rfl (pr_move rfl) ?_
  refine TF.u (v := (.pointer (some _))) rfl rfl (pr_nil rfl) ?_
  refine TF.u (v := (.pointer (some ⟨_, 1, none⟩))) rfl rfl (pr_field (o' := 1) Try.underlying49 rfl (Try.ty3.s) (by decide) rfl rfl) ?_
  refine TF.loadr (v := (.int .i64 _)) rfl rfl (wantF_none rfl) Try.underlying3 rfl rfl ((H.blk (k := 0) rfl).atB rfl) ?_
  refine TF.u (v := (.int .i64 _)) rfl rfl (pr_move rfl) ?_
  refine TF.u (v := (.int .i64 _)) rfl rfl (pr_move rfl) ?_
  refine TF.u (v := (.int .i64 _)) rfl rfl (pr_min2 rfl rfl rfl) ?_
  refine TF.u (v := (.int .i64 _)) rfl rfl (pr_max2 rfl rfl rfl) ?_
  refine TF.u (v := (.int .i64 _)) rfl rfl (pr_add rfl rfl (show _ = ((tLeft s k : Nat) : Int) from (IntWalk.i64_in _ (by omega)).trans (by unfold tLeft; omega))) ?_
  refine TF.u (v := (T _)) rfl rfl (pr_sslice (l := 0) (h := tLeft s k) Try.underlying9 rfl (.inl ⟨rfl, rfl⟩) (.inr ⟨_, _, rfl, rfl⟩) (by omega) (by omega)) ?_
  refine TF.u (v := (.pointer (some _))) rfl rfl (pr_nil rfl) ?_
  refine TF.u (v := (.pointer (some ⟨_, 0, none⟩))) rfl rfl (pr_field (o' := 0) Try.underlying49 rfl (Try.ty9.s) (by decide) rfl rfl) ?_
  refine TF.store (v := (T _)) (q := 0) H rfl rfl rfl (wantF_none rfl) (Try.ty9.s) rfl rfl rfl rfl ?_
  clear H
  intro w ho1 H
  replace H : Sat _ _ _ [_] := H
  replace H : Sat F w0 _ [cBlk tb 49 [T (s.bs.take (tLeft s k)), .int .i64 (s.fast : Int), .int .i64 (s.room : Int), .int .u64 (s.start : Int)]] := H
  clear hB
  refine TF.nil (nx_then ?_)
  -- region 2 ref.go:52
  refine cw_region (clf [.U, .U, .U, .U, .X, .U, .U, .U, .X]) [0, 1, 2, 3, 4, 5, 6, 7, 8] rfl (by kernel_rfl) (by decide) ?_
  refine TF.u (v := (.pointer (some ⟨_, 0, none⟩))) rfl rfl (pr_move rfl) ?_
  refine TF.u (v := (.pointer (some ⟨_, 0, none⟩))) rfl rfl (pr_move rfl) ?_
  refine TF.u (v := (.pointer (some _))) rfl rfl (pr_nil rfl) ?_
  refine TF.u (v := (.pointer (some ⟨_, 0, none⟩))) rfl rfl (pr_field (o' := 0) Try.underlying49 rfl (Try.ty9.s) (by decide) rfl rfl) ?_
  refine TF.load (v := (T _)) rfl rfl (wantF_none rfl) Try.underlying9 rfl rfl ((H.blk (k := 0) rfl).at_ rfl) ?_
  refine TF.u (v := (.int .i64 _)) rfl rfl (pr_slen rfl Try.underlying9 rfl) ?_
  refine TF.u (v := (.pointer (some _))) rfl rfl (pr_nil rfl) ?_
  refine TF.u (v := (.pointer (some ⟨_, 1, none⟩))) rfl rfl (pr_field (o' := 1) Try.underlying49 rfl (Try.ty3.s) (by decide) rfl rfl) ?_
  refine TF.store (v := (.int .i64 _)) (q := 0) H rfl rfl rfl (wantF_none rfl) (Try.ty3.s) rfl rfl rfl rfl ?_
  clear H
  intro w ho2 H
  replace H : Sat _ _ _ [_] := H
  rw [hlt] at H
  refine TF.nil (fin0n Try.results29 ?_)
  have H9 : Sat F w0 _ [cRTape 49 tb (tCrash s k)] := H
  exact ⟨rfl, H9.toUpd (k := 0) rfl, hokp⟩

theorem rtnew_ok (room : Int) (w0 : World) (h1 : -9223372036854775808 ≤ room) (h2 : room ≤ 9223372036854775807) :
    Calls Try.prog 21 #[.int .i64 room] w0 fun e w => ∃ tb, e = .returned (.pointer (some ⟨tb, 0, none⟩)) ∧ NewC (cRTape 49 tb (tNew room)) w0 w ∧ TOk (tNew room) := by
  refine enter (args := [.int .i64 room]) Try.func21 rfl Try.ntmps21 rfl ?_
  have H := Sat.start w0
  refine cw_seq ?_
  -- region 0 ref.go:13
  refine cw_region (clf [.U]) [0] rfl (by kernel_rfl) (by decide) ?_
  refine TF.u (v := (.pointer _)) rfl rfl (pr_assign rfl) ?_
  refine TF.nil (nx_then ?_)
  refine cw_seq ?_
  -- region 1 ref.go:13
  refine cw_region (clf [.U, .U, .U, .U, .X, .U]) [0, 1, 2, 3, 4, 5] rfl (by kernel_rfl) (by decide) ?_
  refine TF.u (v := (.int .i64 _)) rfl rfl (pr_move rfl) ?_
  refine TF.u (v := (.int .i64 _)) rfl rfl (pr_min2 rfl rfl rfl) ?_
  refine TF.u (v := (.int .i64 _)) rfl rfl (pr_max2 rfl rfl (show _ = (((tNew room).room : Nat) : Int) by simp only [tNew]; omega)) ?_
  refine TF.u (v := (.agg ⟨[(.string ⟨⟨[]⟩⟩), (.int .i64 0), (.int .i64 _), (.int .u64 0)]⟩)) rfl rfl (pr_build (cs := [(.string ⟨⟨[]⟩⟩), (.int .i64 0), (.int .i64 _), (.int .u64 0)]) Try.bld49 rfl rfl) ?_
  refine TF.box (v := (.agg ⟨[_, _, _, _]⟩)) H rfl (Cx.xx rfl) (wantF_none rfl) rfl rfl ?_
  clear H
  intro bk1 w hltbk1 hb2 H
  refine TF.u (v := (.pointer (some ⟨_, 0, none⟩))) rfl rfl (pr_assign rfl) ?_
  refine TF.nil (nx_then ?_)
  refine cw_ret (fin1 (v := (.pointer (some ⟨_, 0, none⟩))) Try.results21 rfl rfl ?_)
  have H9 : Sat [] w0 _ [cRTape 49 bk1 (tNew room)] := H
  exact ⟨_, rfl, H9.toNewC (k := 0) rfl, tNew_ok _⟩

theorem awake_ok (w0 : World) : Calls Try.prog 10 #[] w0 fun e w => e = .returned (.bool true) ∧ Below w0.heap.size w0 w := by
  refine enter (args := []) Try.func10 rfl Try.ntmps10 rfl ?_
  have H := Sat.start w0
  refine cw_seq ?_
  -- region 0 law.go:32
  refine cw_region (clf [.U]) [0] rfl (by kernel_rfl) (by decide) ?_
  refine TF.u (v := (.bool _)) rfl rfl (pr_assign rfl) ?_
  refine TF.nil (nx_then ?_)
  refine cw_seq ?_
  -- region 1 law.go:33
  refine cw_region (clf [.X, .U]) [0, 1] rfl (by kernel_rfl) (by decide) ?_
  refine TF.call (args := [(.int .i64 _)]) Try.fn11 rfl rfl (wantF_none rfl) rfl (tnew_ok 5 _ (by omega) (by omega)) ?_
  rintro e_ w ⟨tb1, rfl, hn1, ok1⟩
  refine ⟨_, rfl, ?_⟩
  replace H := H.newC hn1
  replace H : Sat _ _ _ [_] := H
  refine TF.u (v := (.pointer (some ⟨_, 0, none⟩))) rfl rfl (pr_assign rfl) ?_
  refine TF.nil (nx_then ?_)
  refine cw_seq ?_
  refine cw_seq ?_
  -- region 2 law.go:34
  refine cw_region (clf [.U, .U, .U, .U, .X, .X, .X, .U, .U, .U, .U, .X, .X, .X, .U, .U]) [0, 1, 2, 3, 4, 5, 6, 7, 8, 9, 10, 11, 12, 13, 14, 15] rfl (by kernel_rfl) (by decide) ?_
  refine TF.u (v := (.pointer (some ⟨_, 0, none⟩))) rfl rfl (pr_move rfl) ?_
  refine TF.u (v := (.bool _)) rfl rfl (pr_peql Try.underlying23 rfl rfl) ?_
  refine TF.u (v := (.bool _)) rfl rfl (pr_move rfl) ?_
  refine TF.ug (v := (.pointer (some ⟨_, 0, none⟩))) rfl rfl (wantF_yes rfl rfl rfl rfl) (pr_move rfl) ?_
  refine TF.lit (vs := [(.int .u8 _), (.int .u8 _), (.int .u8 _)]) H rfl (Cx.xx rfl) (wantF_yes rfl rfl rfl rfl) Try.underlying25 (Try.ty5) rfl rfl rfl rfl rfl rfl ?_
  clear H
  intro bk2 w hltbk2 hb3 H
  replace H : Sat _ _ _ (cBlk _ _ (u8s [97, 98, 99]) :: _) := H
  replace H : Sat _ _ _ [_, _] := H
  refine TF.mark (q := 0) H rfl rfl (Cx.xx_ rfl) (wantF_yes rfl rfl rfl rfl) Try.underlying25 Try.underlying5 rfl rfl rfl (by decide) ?_
  clear H
  intro w ho4 H
  replace H : Sat _ _ _ [_, _] := H
  obtain ⟨F5, hF5, hU5⟩ := H.focus (k := 1) rfl
  refine TF.call (args := [(.pointer (some ⟨_, 0, none⟩)), (.slice _ _ _)]) Try.fn12 rfl rfl (wantF_yes rfl rfl rfl rfl) rfl (tappend_ok _ _ _ _ _ _ _ _ hF5 ok1 (H.rd (k := 0) rfl) (by first | omega | (simp only [List.length_append, List.length_cons, List.length_nil]; omega))) ?_
  rintro e_ w ⟨rfl, hu5, ok5⟩
  refine ⟨_, rfl, ?_⟩
  replace H := hU5 hu5
  replace H : Sat _ _ _ [_, _] := H
  refine TF.ug (v := (.bool _)) rfl rfl (wantF_yes rfl rfl rfl rfl) (pr_neq rfl rfl) ?_
  refine TF.u (v := (.bool _)) rfl rfl (pr_pickF rfl rfl rfl) ?_
  refine TF.u (v := (.bool _)) rfl rfl (pr_move rfl) ?_
  refine TF.split (dj := 12) rfl (fun hq7 => by
      have hp7 := dF (nT hq7)
      exfalso
      first | omega | exact hp7 rfl | exact hp7 (by decide) | (simp at hp7; done) | (simp at hp7; omega)) ?_
  intro hq7
  have hp7 := dT (nF hq7)
  refine TF.ug (v := (.pointer (some ⟨_, 0, none⟩))) rfl rfl (wantF_yes rfl rfl rfl hq7) (pr_move rfl) ?_
  refine TF.lit (vs := [(.int .u8 _), (.int .u8 _), (.int .u8 _)]) H rfl (Cx.xx rfl) (wantF_yes rfl rfl rfl hq7) Try.underlying25 (Try.ty5) rfl rfl rfl rfl rfl rfl ?_
  clear H
  intro bk8 w hltbk8 hb9 H
  replace H : Sat _ _ _ (cBlk _ _ (u8s [100, 101, 102]) :: _) := H
  replace H : Sat _ _ _ [_, _, _] := H
  refine TF.mark (q := 0) H rfl rfl (Cx.xx_ rfl) (wantF_yes rfl rfl rfl hq7) Try.underlying25 Try.underlying5 rfl rfl rfl (by decide) ?_
  clear H
  intro w ho10 H
  replace H : Sat _ _ _ [_, _, _] := H
  obtain ⟨F11, hF11, hU11⟩ := H.focus (k := 2) rfl
  refine TF.call (args := [(.pointer (some ⟨_, 0, none⟩)), (.slice _ _ _)]) Try.fn12 rfl rfl (wantF_yes rfl rfl rfl hq7) rfl (tappend_ok _ _ _ _ _ _ _ _ hF11 ok5 (H.rd (k := 0) rfl) (by first | omega | (simp only [List.length_append, List.length_cons, List.length_nil]; omega))) ?_
  rintro e_ w ⟨rfl, hu11, ok11⟩
  refine ⟨_, rfl, ?_⟩
  replace H := hU11 hu11
  replace H : Sat _ _ _ [_, _, _] := H
  refine TF.ug (v := (.bool _)) rfl rfl (wantF_yes rfl rfl rfl hq7) (pr_neq rfl rfl) ?_
  refine TF.u (v := (.bool _)) rfl rfl (pr_pickF rfl hq7 rfl) ?_
  refine TF.nil (nx_then ?_)
  refine cw_cond _ rfl rfl (fun hq13 => by
      have hp13 := dF (nT hq13)
      exfalso
      first | omega | exact hp13 rfl | exact hp13 (by decide) | (simp at hp13; done) | (simp at hp13; omega)) ?_
  intro hq13
  have hp13 := dT (nF hq13)
  refine cw_skip (nx_then ?_)
  refine cw_seq ?_
  -- region 4 law.go:37
  refine cw_region (clf [.U, .X, .X, .U, .U, .U, .X, .U, .U, .U]) [0, 1, 2, 3, 4, 5, 6, 7, 8, 9] rfl (by kernel_rfl) (by decide) ?_
  have e2 : tAppend (tAppend (tNew 5) [97, 98, 99]).1 [100, 101, 102] = (⟨[97, 98, 99], 0, 5, 0⟩, 7) := by decide
  rw [e2] at H ok11
  refine TF.u (v := (.pointer (some ⟨_, 0, none⟩))) rfl rfl (pr_move rfl) ?_
  obtain ⟨F14, hF14, hU14⟩ := H.focus (k := 2) rfl
  refine TF.call (args := [(.pointer (some ⟨_, 0, none⟩))]) Try.fn13 rfl rfl (wantF_none rfl) rfl (tbytes_ok _ _ _ _ hF14 ok11) ?_
  rintro e_ w ⟨A14, n14, c14, rfl, hn14⟩
  refine ⟨_, rfl, ?_⟩
  replace H := H.newS hn14
  refine TF.tostr (H.rd (k := 0) rfl) rfl rfl (wantF_none rfl) Try.underlying25 Try.underlying5 Try.underlying9 rfl ?_
  refine TF.u (v := (.bool _)) rfl rfl (pr_seql rfl rfl) ?_
  refine TF.u (v := (.bool _)) rfl rfl (pr_move rfl) ?_
  refine TF.split (dj := 23) rfl ?_ (fun hq17 => by
      have hp17 := eF hq17
      exfalso
      first | omega | exact hp17 rfl | exact hp17 (by decide) | (simp at hp17; done))
  intro hq17
  have hp17 := eT hq17
  refine TF.ug (v := (.pointer (some ⟨_, 0, none⟩))) rfl rfl (wantF_yes rfl rfl rfl hq17) (pr_move rfl) ?_
  obtain ⟨F19, hF19, hU19⟩ := H.focus (k := 3) rfl
  refine TF.call (args := [(.pointer (some ⟨_, 0, none⟩))]) Try.fn24 rfl rfl (wantF_yes rfl rfl rfl hq17) rfl (troom_ok _ _ _ _ hF19 ok11) ?_
  rintro e_ w ⟨rfl, hb18⟩
  refine ⟨_, rfl, ?_⟩
  replace H := H.below hb18
  refine TF.ug (v := (.bool _)) rfl rfl (wantF_yes rfl rfl rfl hq17) (pr_eql rfl rfl) ?_
  refine TF.u (v := (.bool _)) rfl rfl (pr_pickT rfl hq17 rfl) ?_
  refine TF.u (v := (.bool _)) rfl rfl (pr_assign rfl) ?_
  refine TF.nil (nx_then ?_)
  refine cw_ret (fin1 (v := (.bool _)) Try.results10 rfl rfl ?_)
  exact ⟨by simp, H.base⟩

theorem few_ok (A_script : Option Addr) (n_script c_script : Nat) (script : List (Int × Int × List UInt8)) (w0 : World) (h_script : RdS w0 3 A_script n_script c_script (script.flatMap (fun o : Int × Int × List UInt8 => [(.int .i64 o.1), (.int .i64 o.2.1), (T o.2.2)]))) (hl_script : script.length = n_script) (hok_script : ∀ o ∈ script, -9223372036854775808 ≤ o.1 ∧ o.1 ≤ 9223372036854775807 ∧ -9223372036854775808 ≤ o.2.1 ∧ o.2.1 ≤ 9223372036854775807 ∧ o.2.2.length ≤ 9223372036854775807) :
    Calls Try.prog 20 #[.slice A_script n_script c_script] w0 fun e w => e = .returned (.bool (fewS script)) ∧ Below w0.heap.size w0 w := by
  refine enter (args := [.slice A_script n_script c_script]) Try.func20 rfl Try.ntmps20 rfl ?_
  have H := Sat.start w0
  refine cw_seq ?_
  -- region 0 law.go:19
  refine cw_region (clf [.U]) [0] rfl (by kernel_rfl) (by decide) ?_
  refine TF.u (v := (.bool _)) rfl rfl (pr_assign rfl) ?_
  refine TF.nil (nx_then ?_)
  refine cw_seq ?_
  refine cw_seq ?_
  -- region 1 law.go:20
  refine cw_region (clf [.U, .U, .U]) [0, 1, 2] rfl (by kernel_rfl) (by decide) ?_
  refine TF.u (v := (.slice _ _ _)) rfl rfl (pr_move rfl) ?_
  refine TF.u (v := (.int .i64 _)) rfl rfl (pr_len rfl Try.underlying38 rfl) ?_
  refine TF.u (v := (.bool _)) rfl rfl (pr_gtr rfl rfl) ?_
  refine TF.nil (nx_then ?_)
  refine cw_cond _ rfl rfl (fun hq2 => ?_) (fun hq2 => ?_)
  ·
    have hp2 := dT hq2
    refine cw_seq ?_
    -- region 2 law.go:21
    refine cw_region (clf [.U]) [0] rfl (by kernel_rfl) (by decide) ?_
    refine TF.u (v := (.bool _)) rfl rfl (pr_assign rfl) ?_
    refine TF.nil (nx_then ?_)
    refine cw_ret (rt_then (fin1 (v := (.bool _)) Try.results20 rfl rfl ?_))
    rw [fewS_no1 (by omega)]
    exact ⟨rfl, H.base⟩
  ·
    have hp2 := dF hq2
    refine cw_skip (nx_then ?_)
    refine cw_seq ?_
    refine cw_seq ?_
    -- region 3 law.go:23
    refine cw_region (clf [.U, .U, .U]) [0, 1, 2] rfl (by kernel_rfl) (by decide) ?_
    refine TF.u (v := (.slice _ _ _)) rfl rfl (pr_move rfl) ?_
    refine TF.u (v := (.int .i64 _)) rfl rfl (pr_len rfl Try.underlying38 rfl) ?_
    refine TF.u (v := (.int .i64 _)) rfl rfl (pr_move rfl) ?_
    refine TF.nil (nx_then ?_)
    refine cw_block ?_
    refine cw_loop (fun m f w => ∃ (g_ : Nat → Value) (i : Nat), m = n_script - i ∧ f = (upd (upd (upd g_ 0 (.slice A_script n_script c_script)) 8 (.int .i64 (n_script : Int))) 9 (.int .i64 (i : Int))) ∧ Sat [] w0 w [] ∧ (i ≤ n_script) ∧ (∀ o ∈ script.take i, o.2.2.length ≤ 65537)) (n_script - 0) ?_ ?_
    ·
      exact ⟨_, 0, rfl, (cutS (cutS (cutS rfl rfl) rfl) rfl), H, Nat.zero_le _, (fun s hs => by simp at hs)⟩
    ·
      clear H
      rintro m_ f_ w ⟨g_, i, rfl, rfl, H, hi, hle⟩
      refine cw_seq ?_
      -- region 4 law.go:23
      refine cw_region (clf [.U]) [0] rfl (by kernel_rfl) (by decide) ?_
      refine TF.u (v := (.bool _)) rfl rfl (pr_lss rfl rfl) ?_
      refine TF.nil (nx_then ?_)
      refine cw_seq ?_
      refine cw_cond _ rfl rfl (fun hq4 => ?_) (fun hq4 => ?_)
      ·
        have hp4 := dT hq4
        refine cw_skip (nx_then ?_)
        refine cw_seq ?_
        refine cw_block ?_
        refine cw_seq ?_
        -- region 5 law.go:23
        refine cw_region (clf [.U, .U]) [0, 1] rfl (by kernel_rfl) (by decide) ?_
        refine TF.u (v := (.int .i64 _)) rfl rfl (pr_move rfl) ?_
        refine TF.u (v := (.int .i64 _)) rfl rfl (pr_assign rfl) ?_
        refine TF.nil (nx_then ?_)
        refine cw_seq ?_
        -- region 6 law.go:24
        refine cw_region (clf [.U, .U, .U, .U, .X, .U, .U]) [0, 1, 2, 3, 4, 5, 6] rfl (by kernel_rfl) (by decide) ?_
        refine TF.u (v := (.slice _ _ _)) rfl rfl (pr_move rfl) ?_
        refine TF.u (v := (.int .i64 _)) rfl rfl (pr_move rfl) ?_
        obtain ⟨o7, ho7⟩ : ∃ o, script[i]? = some o := ⟨_, List.getElem?_eq_getElem (by omega)⟩
        have hko7 := hok_script o7 (List.mem_of_getElem? ho7)
        obtain ⟨hko7_0, hko7_1, hko7_2, hko7_3, hko7_4⟩ := hko7
        refine TF.idx (h_script.below H.base) rfl rfl (wantF_none rfl) Try.underlying38 (Try.ty47.s) rfl rfl (by omega) (by omega) ?_
        intro p5 hc6
        replace hc6 : ∀ j u, j < 3 → ((fun o : Int × Int × List UInt8 => [(.int .i64 o.1), (.int .i64 o.2.1), (T o.2.2)]) o7)[j]? = some u → w.cell? (p5.add j) = some u := fun j u hj hu => hc6 j u hj ((flat_at (fun o : Int × Int × List UInt8 => [(.int .i64 o.1), (.int .i64 o.2.1), (T o.2.2)]) 3 _ (fun _ => rfl) ho7 hj).trans hu)
        refine TF.u (v := (.pointer (some (Addr.add _ 2)))) rfl rfl (pr_fieldP (o' := 2) Try.underlying47 rfl (Try.ty9.s) (by decide) rfl rfl) ?_
        refine TF.load (v := (T o7.2.2)) rfl rfl (wantF_none rfl) Try.underlying9 rfl rfl (hc6 2 _ (by decide) rfl) ?_
        refine TF.u (v := (.int .i64 _)) rfl rfl (pr_slen rfl Try.underlying9 rfl) ?_
        refine TF.u (v := (.bool _)) rfl rfl (pr_gtr rfl rfl) ?_
        refine TF.nil (nx_then ?_)
        refine cw_cond _ rfl rfl (fun hq9 => ?_) (fun hq9 => ?_)
        ·
          have hp9 := dT hq9
          refine cw_seq ?_
          -- region 7 law.go:25
          refine cw_region (clf [.U]) [0] rfl (by kernel_rfl) (by decide) ?_
          refine TF.u (v := (.bool _)) rfl rfl (pr_assign rfl) ?_
          refine TF.nil (nx_then ?_)
          refine cw_ret (rt_block (rt_then (rt_then (rt_block (rt_then (fin1 (v := (.bool _)) Try.results20 rfl rfl ?_))))))
          rw [fewS_no2 (List.mem_of_getElem? (by assumption)) (by omega)]
          exact ⟨rfl, H.base⟩
        ·
          have hp9 := dF hq9
          refine cw_skip (nx_block (nx_then ?_))
          -- region 8 law.go:23
          refine cw_region (clf [.U, .U]) [0, 1] rfl (by kernel_rfl) (by decide) ?_
          refine TF.u (v := (.int .i64 _)) rfl rfl (pr_add rfl rfl (IntWalk.i64_in _ (by omega))) ?_
          refine TF.u (v := (.int .i64 _)) rfl rfl (pr_move rfl) ?_
          refine TF.nil (nx_loop (m' := n_script - (i + 1)) (by omega) ?_)
          exact ⟨_, i + 1, rfl, (cutS (cutS (cutS rfl rfl) rfl) rfl), H, by omega, by rw [take_snoc (by assumption)]; intro s hs; rcases List.mem_append.1 hs with h | h; exact hle s h; simp at h; subst h; omega⟩
      ·
        have hp4 := dF hq4
        refine cw_exit (ex_then (ex_then (ex_here (nx_then ?_))))
        refine cw_seq ?_
        -- region 9 law.go:28
        refine cw_region (clf [.U]) [0] rfl (by kernel_rfl) (by decide) ?_
        refine TF.u (v := (.bool _)) rfl rfl (pr_assign rfl) ?_
        refine TF.nil (nx_then ?_)
        refine cw_ret (fin1 (v := (.bool _)) Try.results20 rfl rfl ?_)
        rw [fewS_yes (by omega) (fun o ho => hle o (by rw [List.take_of_length_le (by omega)]; exact ho))]
        exact ⟨rfl, H.base⟩

theorem does_ok (tb rb : Nat) (s : TS) (F : List Nat) (oK oN : Int) (oB : List UInt8) (w0 : World) (hF : (cSep (cTape 5 44 tb (s)) (cRTape 49 rb (s))).p w0 F) (ok : TOk s) (h1 : -9223372036854775808 ≤ oK) (h2 : oK ≤ 9223372036854775807) (h3 : -9223372036854775808 ≤ oN) (h4 : oN ≤ 9223372036854775807) (h5 : oB.length ≤ 65537) :
    Calls Try.prog 22 #[.pointer (some ⟨tb, 0, none⟩), .pointer (some ⟨rb, 0, none⟩), .agg ⟨[.int .i64 oK, .int .i64 oN, T oB]⟩] w0 fun e w => e = .returned (.bool true) ∧ Upd (cSep (cTape 5 44 tb (tStep s (oK, oN, oB))) (cRTape 49 rb (tStep s (oK, oN, oB)))) F w0 w ∧ TOk (tStep s (oK, oN, oB)) := by
  refine enter (args := [.pointer (some ⟨tb, 0, none⟩), .pointer (some ⟨rb, 0, none⟩), .agg ⟨[.int .i64 oK, .int .i64 oN, T oB]⟩]) Try.func22 rfl Try.ntmps22 rfl ?_
  have H := (Sat.start1 hF).unsep
  have okr := ok
  refine cw_seq ?_
  -- region 0 law.go:41
  refine cw_region (clf [.X, .U]) [0, 1] rfl (by kernel_rfl) (by decide) ?_
  refine TF.box (v := (.agg ⟨[_, _, _]⟩)) H rfl (Cx.xx rfl) (wantF_none rfl) rfl rfl ?_
  clear H
  intro bk1 w hltbk1 hb2 H
  refine TF.u (v := (.bool _)) rfl rfl (pr_assign rfl) ?_
  refine TF.nil (nx_then ?_)
  refine cw_seq ?_
  -- region 1 law.go:42
  refine cw_region (clf [.U, .U]) [0, 1] rfl (by kernel_rfl) (by decide) ?_
  refine TF.u (v := (.int .i64 _)) rfl rfl (pr_assign rfl) ?_
  refine TF.u (v := (.int .i64 _)) rfl rfl (pr_assign rfl) ?_
  refine TF.nil (nx_then ?_)
  refine cw_seq ?_
  refine cw_seq ?_
  -- region 2 law.go:43
  refine cw_region (clf [.U, .X]) [0, 1] rfl (by kernel_rfl) (by decide) ?_
  refine TF.u (v := (.pointer (some ⟨_, 0, none⟩))) rfl rfl (pr_field (o' := 0) Try.underlying47 rfl (Try.ty3.s) (by decide) rfl rfl) ?_
  refine TF.load (v := (.int .i64 _)) rfl rfl (wantF_none rfl) Try.underlying3 rfl rfl ((H.blk (k := 0) rfl).at_ rfl) ?_
  refine TF.nil (nx_then ?_)
  refine cw_block ?_
  refine cw_seq ?_
  -- region 3 law.go:44
  refine cw_region (clf [.U, .U]) [0, 1] rfl (by kernel_rfl) (by decide) ?_
  refine TF.u (v := (.bool _)) rfl rfl (pr_eql rfl rfl) ?_
  refine TF.u (v := (.bool _)) rfl rfl (pr_assign rfl) ?_
  refine TF.nil (nx_then ?_)
  refine cw_cond _ rfl rfl (fun hq4 => ?_) (fun hq4 => ?_)
  ·
    have hp4 := dT hq4
    refine cw_seq ?_
    -- region 4 law.go:45
    refine cw_region (clf [.U, .U, .X, .X, .X, .U]) [0, 1, 2, 3, 4, 5] rfl (by kernel_rfl) (by decide) ?_
    skip
    refine TF.u (v := (.pointer (some ⟨_, 0, none⟩))) rfl rfl (pr_move rfl) ?_
    refine TF.u (v := (.pointer (some ⟨_, 2, none⟩))) rfl rfl (pr_field (o' := 2) Try.underlying47 rfl (Try.ty9.s) (by decide) rfl rfl) ?_
    refine TF.load (v := (T _)) rfl rfl (wantF_none rfl) Try.underlying9 rfl rfl ((H.blk (k := 0) rfl).at_ rfl) ?_
    refine TF.tobytes H rfl (Cx.xx rfl) (wantF_none rfl) Try.underlying9 Try.underlying25 Try.underlying5 rfl (by unfold maxLen; first | omega | (simp only [List.length_append]; omega)) ?_
    clear H
    intro Aow5 cow5 w hcapow5 hb6 H
    obtain ⟨F7, hF7, hU7⟩ := H.focus (k := 2) rfl
    refine TF.call (args := [(.pointer (some ⟨_, 0, none⟩)), (.slice _ _ _)]) Try.fn12 rfl rfl (wantF_none rfl) rfl (tappend_ok _ _ _ _ _ _ _ _ hF7 ok (H.rd (k := 0) rfl) (by first | omega | (simp only [List.length_append, List.length_cons, List.length_nil]; omega))) ?_
    rintro e_ w ⟨rfl, hu7, ok7⟩
    refine ⟨_, rfl, ?_⟩
    replace H := hU7 hu7
    replace H : Sat _ _ _ [_, _, _, _] := H
    refine TF.u (v := (.int .i64 _)) rfl rfl (pr_assign rfl) ?_
    refine TF.nil (nx_then ?_)
    -- region 5 law.go:46
    refine cw_region (clf [.U, .U, .X, .X, .U]) [0, 1, 2, 3, 4] rfl (by kernel_rfl) (by decide) ?_
    refine TF.u (v := (.pointer (some ⟨_, 0, none⟩))) rfl rfl (pr_move rfl) ?_
    refine TF.u (v := (.pointer (some ⟨_, 2, none⟩))) rfl rfl (pr_field (o' := 2) Try.underlying47 rfl (Try.ty9.s) (by decide) rfl rfl) ?_
    refine TF.load (v := (T _)) rfl rfl (wantF_none rfl) Try.underlying9 rfl rfl ((H.blk (k := 1) rfl).at_ rfl) ?_
    obtain ⟨F8, hF8, hU8⟩ := H.focus (k := 3) rfl
    refine TF.call (args := [(.pointer (some ⟨_, 0, none⟩)), (T _)]) Try.fn25 rfl rfl (wantF_none rfl) rfl (rtappend_ok _ _ _ _ _ hF8 okr (by first | omega | (simp only [List.length_append, List.length_cons, List.length_nil]; omega))) ?_
    rintro e_ w ⟨rfl, hu8, ok8⟩
    refine ⟨_, rfl, ?_⟩
    replace H := hU8 hu8
    replace H : Sat _ _ _ [_, _, _, _] := H
    refine TF.u (v := (.int .i64 _)) rfl rfl (pr_assign rfl) ?_
    refine TF.nil (nx_block (nx_then ?_))
    refine cw_seq ?_
    -- region 18 law.go:60
    refine cw_drawS H Try.wide_ (clf [.U, .U, .U, .U, .U, .P, .U, .U, .U, .R, .U, .U, .U, .U, .U, .P, .U, .U, .U, .R, .U, .U, .U, .U, .P, .U, .U, .U, .R, .U, .U, .U, .U, .P, .U, .U, .U, .R, .U, .U, .U]) [0, 1, 2, 3, 4, 6, 7, 8, 9, 10, 5, 11, 12, 13, 14, 16, 17, 18, 19, 15, 20, 21, 22, 23, 25, 26, 27, 28, 24, 29, 30, 31, 32, 34, 35, 36, 37, 33, 38, 39, 40] (by kernel_rfl) (by kernel_rfl) ?_
    clear H
    intro w hbr H hB
    refine TF.u (v := (.int .i64 _)) rfl rfl (pr_move rfl) ?_
    refine TF.u (v := (.int .i64 _)) rfl rfl (pr_move rfl) ?_
    refine TF.u (v := (.bool _)) rfl rfl (pr_eql rfl rfl) ?_
    refine TF.u (v := (.bool _)) rfl rfl (pr_move rfl) ?_
    refine TF.split (dj := 61) rfl ?_ (fun hq10 => by
        have hp10 := dF hq10
        exfalso
        exact hp10 rfl)
    intro hq10
    have hp10 := dT hq10
    refine TF.ug (v := (.pointer (some ⟨_, 0, none⟩))) rfl rfl (wantF_yes rfl rfl rfl hq10) (pr_move rfl) ?_
    refine TF.ug (v := (.pointer (some ⟨_, 0, none⟩))) rfl rfl (wantF_yes rfl rfl rfl hq10) (pr_move rfl) ?_
    refine TF.ug (v := (.pointer (some _))) rfl rfl (wantF_yes rfl rfl rfl hq10) (pr_nil rfl) ?_
    refine TF.ug (v := (.pointer (some ⟨_, 0, none⟩))) rfl rfl (wantF_yes rfl rfl rfl hq10) (pr_field (o' := 0) Try.underlying49 rfl (Try.ty9.s) (by decide) rfl rfl) ?_
    refine TF.loadr (v := (T _)) rfl rfl (wantF_yes rfl rfl rfl hq10) Try.underlying9 rfl rfl ((H.blk (k := 3) rfl).atB rfl) ?_
    refine TF.ug (v := (.int .i64 _)) rfl rfl (wantF_yes rfl rfl rfl hq10) (pr_slen rfl Try.underlying9 rfl) ?_
    obtain ⟨F12, hF12, hU12⟩ := H.focus (k := 2) rfl
    refine TF.callp (args := [(.pointer (some ⟨_, 0, none⟩))]) Try.fn17 rfl rfl (wantF_yes rfl rfl rfl hq10) rfl (tlen_ok _ _ _ _ hF12 ok7) ?_
    rintro e_ w ⟨rfl, hb11⟩
    refine ⟨_, rfl, fun x => Below w.heap.size w x, fun x hx => below_trans (below_trans hB hb11) hx, Below.refl _ _, ?_⟩
    replace hB := Below.refl w.heap.size w
    replace H := H.below hb11
    refine TF.ug (v := (.bool _)) rfl rfl (wantF_yes rfl rfl rfl hq10) (pr_eql rfl rfl) ?_
    refine TF.u (v := (.bool _)) rfl rfl (pr_pickT rfl hq10 rfl) ?_
    refine TF.u (v := (.bool _)) rfl rfl (pr_move rfl) ?_
    refine TF.split (dj := 71) rfl ?_ (fun hq14 => by
        have hp14 := dF hq14
        exfalso
        exact hp14 rfl)
    intro hq14
    have hp14 := dT hq14
    refine TF.ug (v := (.pointer (some ⟨_, 0, none⟩))) rfl rfl (wantF_yes rfl rfl rfl hq14) (pr_move rfl) ?_
    refine TF.ug (v := (.pointer (some ⟨_, 0, none⟩))) rfl rfl (wantF_yes rfl rfl rfl hq14) (pr_move rfl) ?_
    refine TF.ug (v := (.pointer (some _))) rfl rfl (wantF_yes rfl rfl rfl hq14) (pr_nil rfl) ?_
    refine TF.ug (v := (.pointer (some ⟨_, 1, none⟩))) rfl rfl (wantF_yes rfl rfl rfl hq14) (pr_field (o' := 1) Try.underlying49 rfl (Try.ty3.s) (by decide) rfl rfl) ?_
    refine TF.loadr (v := (.int .i64 _)) rfl rfl (wantF_yes rfl rfl rfl hq14) Try.underlying3 rfl rfl ((H.blk (k := 3) rfl).atB rfl) ?_
    obtain ⟨F16, hF16, hU16⟩ := H.focus (k := 2) rfl
    refine TF.callp (args := [(.pointer (some ⟨_, 0, none⟩))]) Try.fn15 rfl rfl (wantF_yes rfl rfl rfl hq14) rfl (tsynced_ok _ _ _ _ hF16 ok7) ?_
    rintro e_ w ⟨rfl, hb15⟩
    refine ⟨_, rfl, fun x => Below w.heap.size w x, fun x hx => below_trans (below_trans hB hb15) hx, Below.refl _ _, ?_⟩
    replace hB := Below.refl w.heap.size w
    replace H := H.below hb15
    refine TF.ug (v := (.bool _)) rfl rfl (wantF_yes rfl rfl rfl hq14) (pr_eql rfl rfl) ?_
    refine TF.u (v := (.bool _)) rfl rfl (pr_pickT rfl hq14 rfl) ?_
    refine TF.u (v := (.bool _)) rfl rfl (pr_move rfl) ?_
    refine TF.split (dj := 80) rfl ?_ (fun hq18 => by
        have hp18 := dF hq18
        exfalso
        exact hp18 rfl)
    intro hq18
    have hp18 := dT hq18
    refine TF.ug (v := (.pointer (some ⟨_, 0, none⟩))) rfl rfl (wantF_yes rfl rfl rfl hq18) (pr_move rfl) ?_
    refine TF.ug (v := (.pointer (some ⟨_, 0, none⟩))) rfl rfl (wantF_yes rfl rfl rfl hq18) (pr_move rfl) ?_
    refine TF.ug (v := (.pointer (some _))) rfl rfl (wantF_yes rfl rfl rfl hq18) (pr_nil rfl) ?_
    refine TF.ug (v := (.pointer (some ⟨_, 3, none⟩))) rfl rfl (wantF_yes rfl rfl rfl hq18) (pr_field (o' := 3) Try.underlying49 rfl (Try.ty42.s) (by decide) rfl rfl) ?_
    refine TF.loadr (v := (.int .u64 _)) rfl rfl (wantF_yes rfl rfl rfl hq18) Try.underlying42 rfl rfl ((H.blk (k := 3) rfl).atB rfl) ?_
    obtain ⟨F20, hF20, hU20⟩ := H.focus (k := 2) rfl
    refine TF.callp (args := [(.pointer (some ⟨_, 0, none⟩))]) Try.fn23 rfl rfl (wantF_yes rfl rfl rfl hq18) rfl (tstart_ok _ _ _ _ hF20 ok7) ?_
    rintro e_ w ⟨rfl, hb19⟩
    refine ⟨_, rfl, fun x => Below w.heap.size w x, fun x hx => below_trans (below_trans hB hb19) hx, Below.refl _ _, ?_⟩
    replace hB := Below.refl w.heap.size w
    replace H := H.below hb19
    refine TF.ug (v := (.bool _)) rfl rfl (wantF_yes rfl rfl rfl hq18) (pr_eql rfl rfl) ?_
    refine TF.u (v := (.bool _)) rfl rfl (pr_pickT rfl hq18 rfl) ?_
    refine TF.u (v := (.bool _)) rfl rfl (pr_move rfl) ?_
    refine TF.split (dj := 89) rfl ?_ (fun hq22 => by
        have hp22 := dF hq22
        exfalso
        exact hp22 rfl)
    intro hq22
    have hp22 := dT hq22
    refine TF.ug (v := (.pointer (some ⟨_, 0, none⟩))) rfl rfl (wantF_yes rfl rfl rfl hq22) (pr_move rfl) ?_
    refine TF.ug (v := (.pointer (some ⟨_, 0, none⟩))) rfl rfl (wantF_yes rfl rfl rfl hq22) (pr_move rfl) ?_
    refine TF.ug (v := (.pointer (some _))) rfl rfl (wantF_yes rfl rfl rfl hq22) (pr_nil rfl) ?_
    refine TF.ug (v := (.pointer (some ⟨_, 2, none⟩))) rfl rfl (wantF_yes rfl rfl rfl hq22) (pr_field (o' := 2) Try.underlying49 rfl (Try.ty3.s) (by decide) rfl rfl) ?_
    refine TF.loadr (v := (.int .i64 _)) rfl rfl (wantF_yes rfl rfl rfl hq22) Try.underlying3 rfl rfl ((H.blk (k := 3) rfl).atB rfl) ?_
    obtain ⟨F24, hF24, hU24⟩ := H.focus (k := 2) rfl
    refine TF.callp (args := [(.pointer (some ⟨_, 0, none⟩))]) Try.fn24 rfl rfl (wantF_yes rfl rfl rfl hq22) rfl (troom_ok _ _ _ _ hF24 ok7) ?_
    rintro e_ w ⟨rfl, hb23⟩
    refine ⟨_, rfl, fun x => Below w.heap.size w x, fun x hx => below_trans (below_trans hB hb23) hx, Below.refl _ _, ?_⟩
    replace hB := Below.refl w.heap.size w
    replace H := H.below hb23
    refine TF.ug (v := (.bool _)) rfl rfl (wantF_yes rfl rfl rfl hq22) (pr_eql rfl rfl) ?_
    refine TF.u (v := (.bool _)) rfl rfl (pr_pickT rfl hq22 rfl) ?_
    refine TF.u (v := (.bool _)) rfl rfl (pr_assign rfl) ?_
    clear hB
    refine TF.nil (nx_then ?_)
    refine cw_ret (fin1 (v := (.bool _)) Try.results22 rfl rfl ?_)
    have es : tStep s (oK, oN, oB) = (tAppend s oB).1 := by simp only [tStep]; rw [if_pos (show oK = 1 by omega)]
    rw [es]
    have H9 : Sat F w0 _ [cSep (cTape 5 44 tb ((tAppend s oB).1)) (cRTape 49 rb ((tAppend s oB).1))] := (H.two (i := 2) (j := 2) rfl rfl).sep
    exact ⟨by simp, H9.toUpd (k := 0) rfl, ok7⟩
  ·
    have hp4 := dF hq4
    refine cw_seq ?_
    -- region 6 law.go:47
    refine cw_region (clf [.U, .U]) [0, 1] rfl (by kernel_rfl) (by decide) ?_
    refine TF.u (v := (.bool _)) rfl rfl (pr_eql rfl rfl) ?_
    refine TF.u (v := (.bool _)) rfl rfl (pr_assign rfl) ?_
    refine TF.nil (nx_then ?_)
    refine cw_cond _ rfl rfl (fun hq27 => ?_) (fun hq27 => ?_)
    ·
      have hp27 := dT hq27
      refine cw_seq ?_
      -- region 7 law.go:48
      refine cw_region (clf [.U, .X, .U]) [0, 1, 2] rfl (by kernel_rfl) (by decide) ?_
      skip
      refine TF.u (v := (.pointer (some ⟨_, 0, none⟩))) rfl rfl (pr_move rfl) ?_
      obtain ⟨F28, hF28, hU28⟩ := H.focus (k := 1) rfl
      refine TF.call (args := [(.pointer (some ⟨_, 0, none⟩))]) Try.fn16 rfl rfl (wantF_none rfl) rfl (tsync_ok _ _ _  _ hF28 ok ) ?_
      rintro e_ w ⟨rfl, hu28, ok28⟩
      refine ⟨_, rfl, ?_⟩
      replace H := hU28 hu28
      replace H : Sat _ _ _ [_, _, _] := H
      refine TF.u (v := (.int .i64 _)) rfl rfl (pr_assign rfl) ?_
      refine TF.nil (nx_then ?_)
      -- region 8 law.go:49
      refine cw_region (clf [.U, .X]) [0, 1] rfl (by kernel_rfl) (by decide) ?_
      refine TF.u (v := (.pointer (some ⟨_, 0, none⟩))) rfl rfl (pr_move rfl) ?_
      obtain ⟨F29, hF29, hU29⟩ := H.focus (k := 2) rfl
      refine TF.call (args := [(.pointer (some ⟨_, 0, none⟩))]) Try.fn26 rfl rfl (wantF_none rfl) rfl (rtsync_ok _ _ _  _ hF29 okr ) ?_
      rintro e_ w ⟨rfl, hu29, ok29⟩
      refine ⟨_, rfl, ?_⟩
      replace H := hU29 hu29
      replace H : Sat _ _ _ [_, _, _] := H
      refine TF.nil (nx_block (nx_then ?_))
      refine cw_seq ?_
      -- region 18 law.go:60
      refine cw_drawS H Try.wide_ (clf [.U, .U, .U, .U, .U, .P, .U, .U, .U, .R, .U, .U, .U, .U, .U, .P, .U, .U, .U, .R, .U, .U, .U, .U, .P, .U, .U, .U, .R, .U, .U, .U, .U, .P, .U, .U, .U, .R, .U, .U, .U]) [0, 1, 2, 3, 4, 6, 7, 8, 9, 10, 5, 11, 12, 13, 14, 16, 17, 18, 19, 15, 20, 21, 22, 23, 25, 26, 27, 28, 24, 29, 30, 31, 32, 34, 35, 36, 37, 33, 38, 39, 40] (by kernel_rfl) (by kernel_rfl) ?_
      clear H
      intro w hbr H hB
      refine TF.u (v := (.int .i64 _)) rfl rfl (pr_move rfl) ?_
      refine TF.u (v := (.int .i64 _)) rfl rfl (pr_move rfl) ?_
      refine TF.u (v := (.bool _)) rfl rfl (pr_eql rfl rfl) ?_
      refine TF.u (v := (.bool _)) rfl rfl (pr_move rfl) ?_
      refine TF.split (dj := 61) rfl ?_ (fun hq31 => by
          have hp31 := dF hq31
          exfalso
          exact hp31 rfl)
      intro hq31
      have hp31 := dT hq31
      refine TF.ug (v := (.pointer (some ⟨_, 0, none⟩))) rfl rfl (wantF_yes rfl rfl rfl hq31) (pr_move rfl) ?_
      refine TF.ug (v := (.pointer (some ⟨_, 0, none⟩))) rfl rfl (wantF_yes rfl rfl rfl hq31) (pr_move rfl) ?_
      refine TF.ug (v := (.pointer (some _))) rfl rfl (wantF_yes rfl rfl rfl hq31) (pr_nil rfl) ?_
      refine TF.ug (v := (.pointer (some ⟨_, 0, none⟩))) rfl rfl (wantF_yes rfl rfl rfl hq31) (pr_field (o' := 0) Try.underlying49 rfl (Try.ty9.s) (by decide) rfl rfl) ?_
      refine TF.loadr (v := (T _)) rfl rfl (wantF_yes rfl rfl rfl hq31) Try.underlying9 rfl rfl ((H.blk (k := 2) rfl).atB rfl) ?_
      refine TF.ug (v := (.int .i64 _)) rfl rfl (wantF_yes rfl rfl rfl hq31) (pr_slen rfl Try.underlying9 rfl) ?_
      obtain ⟨F33, hF33, hU33⟩ := H.focus (k := 1) rfl
      refine TF.callp (args := [(.pointer (some ⟨_, 0, none⟩))]) Try.fn17 rfl rfl (wantF_yes rfl rfl rfl hq31) rfl (tlen_ok _ _ _ _ hF33 ok28) ?_
      rintro e_ w ⟨rfl, hb32⟩
      refine ⟨_, rfl, fun x => Below w.heap.size w x, fun x hx => below_trans (below_trans hB hb32) hx, Below.refl _ _, ?_⟩
      replace hB := Below.refl w.heap.size w
      replace H := H.below hb32
      refine TF.ug (v := (.bool _)) rfl rfl (wantF_yes rfl rfl rfl hq31) (pr_eql rfl rfl) ?_
      refine TF.u (v := (.bool _)) rfl rfl (pr_pickT rfl hq31 rfl) ?_
      refine TF.u (v := (.bool _)) rfl rfl (pr_move rfl) ?_
      refine TF.split (dj := 71) rfl ?_ (fun hq35 => by
          have hp35 := dF hq35
          exfalso
          exact hp35 rfl)
      intro hq35
      have hp35 := dT hq35
      refine TF.ug (v := (.pointer (some ⟨_, 0, none⟩))) rfl rfl (wantF_yes rfl rfl rfl hq35) (pr_move rfl) ?_
      refine TF.ug (v := (.pointer (some ⟨_, 0, none⟩))) rfl rfl (wantF_yes rfl rfl rfl hq35) (pr_move rfl) ?_
      refine TF.ug (v := (.pointer (some _))) rfl rfl (wantF_yes rfl rfl rfl hq35) (pr_nil rfl) ?_
      refine TF.ug (v := (.pointer (some ⟨_, 1, none⟩))) rfl rfl (wantF_yes rfl rfl rfl hq35) (pr_field (o' := 1) Try.underlying49 rfl (Try.ty3.s) (by decide) rfl rfl) ?_
      refine TF.loadr (v := (.int .i64 _)) rfl rfl (wantF_yes rfl rfl rfl hq35) Try.underlying3 rfl rfl ((H.blk (k := 2) rfl).atB rfl) ?_
      obtain ⟨F37, hF37, hU37⟩ := H.focus (k := 1) rfl
      refine TF.callp (args := [(.pointer (some ⟨_, 0, none⟩))]) Try.fn15 rfl rfl (wantF_yes rfl rfl rfl hq35) rfl (tsynced_ok _ _ _ _ hF37 ok28) ?_
      rintro e_ w ⟨rfl, hb36⟩
      refine ⟨_, rfl, fun x => Below w.heap.size w x, fun x hx => below_trans (below_trans hB hb36) hx, Below.refl _ _, ?_⟩
      replace hB := Below.refl w.heap.size w
      replace H := H.below hb36
      refine TF.ug (v := (.bool _)) rfl rfl (wantF_yes rfl rfl rfl hq35) (pr_eql rfl rfl) ?_
      refine TF.u (v := (.bool _)) rfl rfl (pr_pickT rfl hq35 rfl) ?_
      refine TF.u (v := (.bool _)) rfl rfl (pr_move rfl) ?_
      refine TF.split (dj := 80) rfl ?_ (fun hq39 => by
          have hp39 := dF hq39
          exfalso
          exact hp39 rfl)
      intro hq39
      have hp39 := dT hq39
      refine TF.ug (v := (.pointer (some ⟨_, 0, none⟩))) rfl rfl (wantF_yes rfl rfl rfl hq39) (pr_move rfl) ?_
      refine TF.ug (v := (.pointer (some ⟨_, 0, none⟩))) rfl rfl (wantF_yes rfl rfl rfl hq39) (pr_move rfl) ?_
      refine TF.ug (v := (.pointer (some _))) rfl rfl (wantF_yes rfl rfl rfl hq39) (pr_nil rfl) ?_
      refine TF.ug (v := (.pointer (some ⟨_, 3, none⟩))) rfl rfl (wantF_yes rfl rfl rfl hq39) (pr_field (o' := 3) Try.underlying49 rfl (Try.ty42.s) (by decide) rfl rfl) ?_
      refine TF.loadr (v := (.int .u64 _)) rfl rfl (wantF_yes rfl rfl rfl hq39) Try.underlying42 rfl rfl ((H.blk (k := 2) rfl).atB rfl) ?_
      obtain ⟨F41, hF41, hU41⟩ := H.focus (k := 1) rfl
      refine TF.callp (args := [(.pointer (some ⟨_, 0, none⟩))]) Try.fn23 rfl rfl (wantF_yes rfl rfl rfl hq39) rfl (tstart_ok _ _ _ _ hF41 ok28) ?_
      rintro e_ w ⟨rfl, hb40⟩
      refine ⟨_, rfl, fun x => Below w.heap.size w x, fun x hx => below_trans (below_trans hB hb40) hx, Below.refl _ _, ?_⟩
      replace hB := Below.refl w.heap.size w
      replace H := H.below hb40
      refine TF.ug (v := (.bool _)) rfl rfl (wantF_yes rfl rfl rfl hq39) (pr_eql rfl rfl) ?_
      refine TF.u (v := (.bool _)) rfl rfl (pr_pickT rfl hq39 rfl) ?_
      refine TF.u (v := (.bool _)) rfl rfl (pr_move rfl) ?_
      refine TF.split (dj := 89) rfl ?_ (fun hq43 => by
          have hp43 := dF hq43
          exfalso
          exact hp43 rfl)
      intro hq43
      have hp43 := dT hq43
      refine TF.ug (v := (.pointer (some ⟨_, 0, none⟩))) rfl rfl (wantF_yes rfl rfl rfl hq43) (pr_move rfl) ?_
      refine TF.ug (v := (.pointer (some ⟨_, 0, none⟩))) rfl rfl (wantF_yes rfl rfl rfl hq43) (pr_move rfl) ?_
      refine TF.ug (v := (.pointer (some _))) rfl rfl (wantF_yes rfl rfl rfl hq43) (pr_nil rfl) ?_
      refine TF.ug (v := (.pointer (some ⟨_, 2, none⟩))) rfl rfl (wantF_yes rfl rfl rfl hq43) (pr_field (o' := 2) Try.underlying49 rfl (Try.ty3.s) (by decide) rfl rfl) ?_
      refine TF.loadr (v := (.int .i64 _)) rfl rfl (wantF_yes rfl rfl rfl hq43) Try.underlying3 rfl rfl ((H.blk (k := 2) rfl).atB rfl) ?_
      obtain ⟨F45, hF45, hU45⟩ := H.focus (k := 1) rfl
      refine TF.callp (args := [(.pointer (some ⟨_, 0, none⟩))]) Try.fn24 rfl rfl (wantF_yes rfl rfl rfl hq43) rfl (troom_ok _ _ _ _ hF45 ok28) ?_
      rintro e_ w ⟨rfl, hb44⟩
      refine ⟨_, rfl, fun x => Below w.heap.size w x, fun x hx => below_trans (below_trans hB hb44) hx, Below.refl _ _, ?_⟩
      replace hB := Below.refl w.heap.size w
      replace H := H.below hb44
      refine TF.ug (v := (.bool _)) rfl rfl (wantF_yes rfl rfl rfl hq43) (pr_eql rfl rfl) ?_
      refine TF.u (v := (.bool _)) rfl rfl (pr_pickT rfl hq43 rfl) ?_
      refine TF.u (v := (.bool _)) rfl rfl (pr_assign rfl) ?_
      clear hB
      refine TF.nil (nx_then ?_)
      refine cw_ret (fin1 (v := (.bool _)) Try.results22 rfl rfl ?_)
      have es : tStep s (oK, oN, oB) = tSync s := by simp only [tStep]; rw [if_neg (show ¬ oK = 1 by omega), if_pos (show oK = 2 by omega)]
      rw [es]
      have H9 : Sat F w0 _ [cSep (cTape 5 44 tb (tSync s)) (cRTape 49 rb (tSync s))] := (H.two (i := 1) (j := 1) rfl rfl).sep
      exact ⟨by simp, H9.toUpd (k := 0) rfl, ok28⟩
    ·
      have hp27 := dF hq27
      refine cw_seq ?_
      -- region 9 law.go:50
      refine cw_region (clf [.U, .U]) [0, 1] rfl (by kernel_rfl) (by decide) ?_
      refine TF.u (v := (.bool _)) rfl rfl (pr_eql rfl rfl) ?_
      refine TF.u (v := (.bool _)) rfl rfl (pr_assign rfl) ?_
      refine TF.nil (nx_then ?_)
      refine cw_cond _ rfl rfl (fun hq48 => ?_) (fun hq48 => ?_)
      ·
        have hp48 := dT hq48
        refine cw_seq ?_
        -- region 10 law.go:51
        refine cw_region (clf [.U, .U, .X, .X, .U]) [0, 1, 2, 3, 4] rfl (by kernel_rfl) (by decide) ?_
        skip
        refine TF.u (v := (.pointer (some ⟨_, 0, none⟩))) rfl rfl (pr_move rfl) ?_
        refine TF.u (v := (.pointer (some ⟨_, 1, none⟩))) rfl rfl (pr_field (o' := 1) Try.underlying47 rfl (Try.ty3.s) (by decide) rfl rfl) ?_
        refine TF.load (v := (.int .i64 _)) rfl rfl (wantF_none rfl) Try.underlying3 rfl rfl ((H.blk (k := 0) rfl).at_ rfl) ?_
        obtain ⟨F49, hF49, hU49⟩ := H.focus (k := 1) rfl
        refine TF.call (args := [(.pointer (some ⟨_, 0, none⟩)), (.int .i64 _)]) Try.fn18 rfl rfl (wantF_none rfl) rfl (tcut_ok _ _ _ _ _ hF49 ok (by omega) (by omega)) ?_
        rintro e_ w ⟨rfl, hu49, ok49⟩
        refine ⟨_, rfl, ?_⟩
        replace H := hU49 hu49
        replace H : Sat _ _ _ [_, _, _] := H
        refine TF.u (v := (.int .i64 _)) rfl rfl (pr_assign rfl) ?_
        refine TF.nil (nx_then ?_)
        -- region 11 law.go:52
        refine cw_region (clf [.U, .U, .X, .X, .U]) [0, 1, 2, 3, 4] rfl (by kernel_rfl) (by decide) ?_
        refine TF.u (v := (.pointer (some ⟨_, 0, none⟩))) rfl rfl (pr_move rfl) ?_
        refine TF.u (v := (.pointer (some ⟨_, 1, none⟩))) rfl rfl (pr_field (o' := 1) Try.underlying47 rfl (Try.ty3.s) (by decide) rfl rfl) ?_
        refine TF.load (v := (.int .i64 _)) rfl rfl (wantF_none rfl) Try.underlying3 rfl rfl ((H.blk (k := 0) rfl).at_ rfl) ?_
        obtain ⟨F50, hF50, hU50⟩ := H.focus (k := 2) rfl
        refine TF.call (args := [(.pointer (some ⟨_, 0, none⟩)), (.int .i64 _)]) Try.fn27 rfl rfl (wantF_none rfl) rfl (rtcut_ok _ _ _ _ _ hF50 okr (by omega) (by omega)) ?_
        rintro e_ w ⟨rfl, hu50, ok50⟩
        refine ⟨_, rfl, ?_⟩
        replace H := hU50 hu50
        replace H : Sat _ _ _ [_, _, _] := H
        refine TF.u (v := (.int .i64 _)) rfl rfl (pr_assign rfl) ?_
        refine TF.nil (nx_block (nx_then ?_))
        refine cw_seq ?_
        -- region 18 law.go:60
        refine cw_drawS H Try.wide_ (clf [.U, .U, .U, .U, .U, .P, .U, .U, .U, .R, .U, .U, .U, .U, .U, .P, .U, .U, .U, .R, .U, .U, .U, .U, .P, .U, .U, .U, .R, .U, .U, .U, .U, .P, .U, .U, .U, .R, .U, .U, .U]) [0, 1, 2, 3, 4, 6, 7, 8, 9, 10, 5, 11, 12, 13, 14, 16, 17, 18, 19, 15, 20, 21, 22, 23, 25, 26, 27, 28, 24, 29, 30, 31, 32, 34, 35, 36, 37, 33, 38, 39, 40] (by kernel_rfl) (by kernel_rfl) ?_
        clear H
        intro w hbr H hB
        refine TF.u (v := (.int .i64 _)) rfl rfl (pr_move rfl) ?_
        refine TF.u (v := (.int .i64 _)) rfl rfl (pr_move rfl) ?_
        refine TF.u (v := (.bool _)) rfl rfl (pr_eql rfl rfl) ?_
        refine TF.u (v := (.bool _)) rfl rfl (pr_move rfl) ?_
        refine TF.split (dj := 61) rfl ?_ (fun hq52 => by
            have hp52 := dF hq52
            exfalso
            exact hp52 rfl)
        intro hq52
        have hp52 := dT hq52
        refine TF.ug (v := (.pointer (some ⟨_, 0, none⟩))) rfl rfl (wantF_yes rfl rfl rfl hq52) (pr_move rfl) ?_
        refine TF.ug (v := (.pointer (some ⟨_, 0, none⟩))) rfl rfl (wantF_yes rfl rfl rfl hq52) (pr_move rfl) ?_
        refine TF.ug (v := (.pointer (some _))) rfl rfl (wantF_yes rfl rfl rfl hq52) (pr_nil rfl) ?_
        refine TF.ug (v := (.pointer (some ⟨_, 0, none⟩))) rfl rfl (wantF_yes rfl rfl rfl hq52) (pr_field (o' := 0) Try.underlying49 rfl (Try.ty9.s) (by decide) rfl rfl) ?_
        refine TF.loadr (v := (T _)) rfl rfl (wantF_yes rfl rfl rfl hq52) Try.underlying9 rfl rfl ((H.blk (k := 2) rfl).atB rfl) ?_
        refine TF.ug (v := (.int .i64 _)) rfl rfl (wantF_yes rfl rfl rfl hq52) (pr_slen rfl Try.underlying9 rfl) ?_
        obtain ⟨F54, hF54, hU54⟩ := H.focus (k := 1) rfl
        refine TF.callp (args := [(.pointer (some ⟨_, 0, none⟩))]) Try.fn17 rfl rfl (wantF_yes rfl rfl rfl hq52) rfl (tlen_ok _ _ _ _ hF54 ok49) ?_
        rintro e_ w ⟨rfl, hb53⟩
        refine ⟨_, rfl, fun x => Below w.heap.size w x, fun x hx => below_trans (below_trans hB hb53) hx, Below.refl _ _, ?_⟩
        replace hB := Below.refl w.heap.size w
        replace H := H.below hb53
        refine TF.ug (v := (.bool _)) rfl rfl (wantF_yes rfl rfl rfl hq52) (pr_eql rfl rfl) ?_
        refine TF.u (v := (.bool _)) rfl rfl (pr_pickT rfl hq52 rfl) ?_
        refine TF.u (v := (.bool _)) rfl rfl (pr_move rfl) ?_
        refine TF.split (dj := 71) rfl ?_ (fun hq56 => by
            have hp56 := dF hq56
            exfalso
            exact hp56 rfl)
        intro hq56
        have hp56 := dT hq56
        refine TF.ug (v := (.pointer (some ⟨_, 0, none⟩))) rfl rfl (wantF_yes rfl rfl rfl hq56) (pr_move rfl) ?_
        refine TF.ug (v := (.pointer (some ⟨_, 0, none⟩))) rfl rfl (wantF_yes rfl rfl rfl hq56) (pr_move rfl) ?_
        refine TF.ug (v := (.pointer (some _))) rfl rfl (wantF_yes rfl rfl rfl hq56) (pr_nil rfl) ?_
        refine TF.ug (v := (.pointer (some ⟨_, 1, none⟩))) rfl rfl (wantF_yes rfl rfl rfl hq56) (pr_field (o' := 1) Try.underlying49 rfl (Try.ty3.s) (by decide) rfl rfl) ?_
        refine TF.loadr (v := (.int .i64 _)) rfl rfl (wantF_yes rfl rfl rfl hq56) Try.underlying3 rfl rfl ((H.blk (k := 2) rfl).atB rfl) ?_
        obtain ⟨F58, hF58, hU58⟩ := H.focus (k := 1) rfl
        refine TF.callp (args := [(.pointer (some ⟨_, 0, none⟩))]) Try.fn15 rfl rfl (wantF_yes rfl rfl rfl hq56) rfl (tsynced_ok _ _ _ _ hF58 ok49) ?_
        rintro e_ w ⟨rfl, hb57⟩
        refine ⟨_, rfl, fun x => Below w.heap.size w x, fun x hx => below_trans (below_trans hB hb57) hx, Below.refl _ _, ?_⟩
        replace hB := Below.refl w.heap.size w
        replace H := H.below hb57
        refine TF.ug (v := (.bool _)) rfl rfl (wantF_yes rfl rfl rfl hq56) (pr_eql rfl rfl) ?_
        refine TF.u (v := (.bool _)) rfl rfl (pr_pickT rfl hq56 rfl) ?_
        refine TF.u (v := (.bool _)) rfl rfl (pr_move rfl) ?_
        refine TF.split (dj := 80) rfl ?_ (fun hq60 => by
            have hp60 := dF hq60
            exfalso
            exact hp60 rfl)
        intro hq60
        have hp60 := dT hq60
        refine TF.ug (v := (.pointer (some ⟨_, 0, none⟩))) rfl rfl (wantF_yes rfl rfl rfl hq60) (pr_move rfl) ?_
        refine TF.ug (v := (.pointer (some ⟨_, 0, none⟩))) rfl rfl (wantF_yes rfl rfl rfl hq60) (pr_move rfl) ?_
        refine TF.ug (v := (.pointer (some _))) rfl rfl (wantF_yes rfl rfl rfl hq60) (pr_nil rfl) ?_
        refine TF.ug (v := (.pointer (some ⟨_, 3, none⟩))) rfl rfl (wantF_yes rfl rfl rfl hq60) (pr_field (o' := 3) Try.underlying49 rfl (Try.ty42.s) (by decide) rfl rfl) ?_
        refine TF.loadr (v := (.int .u64 _)) rfl rfl (wantF_yes rfl rfl rfl hq60) Try.underlying42 rfl rfl ((H.blk (k := 2) rfl).atB rfl) ?_
        obtain ⟨F62, hF62, hU62⟩ := H.focus (k := 1) rfl
        refine TF.callp (args := [(.pointer (some ⟨_, 0, none⟩))]) Try.fn23 rfl rfl (wantF_yes rfl rfl rfl hq60) rfl (tstart_ok _ _ _ _ hF62 ok49) ?_
        rintro e_ w ⟨rfl, hb61⟩
        refine ⟨_, rfl, fun x => Below w.heap.size w x, fun x hx => below_trans (below_trans hB hb61) hx, Below.refl _ _, ?_⟩
        replace hB := Below.refl w.heap.size w
        replace H := H.below hb61
        refine TF.ug (v := (.bool _)) rfl rfl (wantF_yes rfl rfl rfl hq60) (pr_eql rfl rfl) ?_
        refine TF.u (v := (.bool _)) rfl rfl (pr_pickT rfl hq60 rfl) ?_
        refine TF.u (v := (.bool _)) rfl rfl (pr_move rfl) ?_
        refine TF.split (dj := 89) rfl ?_ (fun hq64 => by
            have hp64 := dF hq64
            exfalso
            exact hp64 rfl)
        intro hq64
        have hp64 := dT hq64
        refine TF.ug (v := (.pointer (some ⟨_, 0, none⟩))) rfl rfl (wantF_yes rfl rfl rfl hq64) (pr_move rfl) ?_
        refine TF.ug (v := (.pointer (some ⟨_, 0, none⟩))) rfl rfl (wantF_yes rfl rfl rfl hq64) (pr_move rfl) ?_
        refine TF.ug (v := (.pointer (some _))) rfl rfl (wantF_yes rfl rfl rfl hq64) (pr_nil rfl) ?_
        refine TF.ug (v := (.pointer (some ⟨_, 2, none⟩))) rfl rfl (wantF_yes rfl rfl rfl hq64) (pr_field (o' := 2) Try.underlying49 rfl (Try.ty3.s) (by decide) rfl rfl) ?_
        refine TF.loadr (v := (.int .i64 _)) rfl rfl (wantF_yes rfl rfl rfl hq64) Try.underlying3 rfl rfl ((H.blk (k := 2) rfl).atB rfl) ?_
        obtain ⟨F66, hF66, hU66⟩ := H.focus (k := 1) rfl
        refine TF.callp (args := [(.pointer (some ⟨_, 0, none⟩))]) Try.fn24 rfl rfl (wantF_yes rfl rfl rfl hq64) rfl (troom_ok _ _ _ _ hF66 ok49) ?_
        rintro e_ w ⟨rfl, hb65⟩
        refine ⟨_, rfl, fun x => Below w.heap.size w x, fun x hx => below_trans (below_trans hB hb65) hx, Below.refl _ _, ?_⟩
        replace hB := Below.refl w.heap.size w
        replace H := H.below hb65
        refine TF.ug (v := (.bool _)) rfl rfl (wantF_yes rfl rfl rfl hq64) (pr_eql rfl rfl) ?_
        refine TF.u (v := (.bool _)) rfl rfl (pr_pickT rfl hq64 rfl) ?_
        refine TF.u (v := (.bool _)) rfl rfl (pr_assign rfl) ?_
        clear hB
        refine TF.nil (nx_then ?_)
        refine cw_ret (fin1 (v := (.bool _)) Try.results22 rfl rfl ?_)
        have es : tStep s (oK, oN, oB) = (tCut s oN).1 := by simp only [tStep]; rw [if_neg (show ¬ oK = 1 by omega), if_neg (show ¬ oK = 2 by omega), if_pos (show oK = 3 by omega)]
        rw [es]
        have H9 : Sat F w0 _ [cSep (cTape 5 44 tb ((tCut s oN).1)) (cRTape 49 rb ((tCut s oN).1))] := (H.two (i := 1) (j := 1) rfl rfl).sep
        exact ⟨by simp, H9.toUpd (k := 0) rfl, ok49⟩
      ·
        have hp48 := dF hq48
        refine cw_seq ?_
        -- region 12 law.go:53
        refine cw_region (clf [.U, .U]) [0, 1] rfl (by kernel_rfl) (by decide) ?_
        refine TF.u (v := (.bool _)) rfl rfl (pr_eql rfl rfl) ?_
        refine TF.u (v := (.bool _)) rfl rfl (pr_assign rfl) ?_
        refine TF.nil (nx_then ?_)
        refine cw_cond _ rfl rfl (fun hq69 => ?_) (fun hq69 => ?_)
        ·
          have hp69 := dT hq69
          refine cw_seq ?_
          -- region 13 law.go:54
          refine cw_region (clf [.U, .U, .X, .X, .U]) [0, 1, 2, 3, 4] rfl (by kernel_rfl) (by decide) ?_
          skip
          refine TF.u (v := (.pointer (some ⟨_, 0, none⟩))) rfl rfl (pr_move rfl) ?_
          refine TF.u (v := (.pointer (some ⟨_, 1, none⟩))) rfl rfl (pr_field (o' := 1) Try.underlying47 rfl (Try.ty3.s) (by decide) rfl rfl) ?_
          refine TF.load (v := (.int .i64 _)) rfl rfl (wantF_none rfl) Try.underlying3 rfl rfl ((H.blk (k := 0) rfl).at_ rfl) ?_
          obtain ⟨F70, hF70, hU70⟩ := H.focus (k := 1) rfl
          refine TF.call (args := [(.pointer (some ⟨_, 0, none⟩)), (.int .i64 _)]) Try.fn19 rfl rfl (wantF_none rfl) rfl (tchop_ok _ _ _ _ _ hF70 ok (by omega) (by omega)) ?_
          rintro e_ w ⟨rfl, hu70, ok70⟩
          refine ⟨_, rfl, ?_⟩
          replace H := hU70 hu70
          replace H : Sat _ _ _ [_, _, _] := H
          refine TF.u (v := (.int .i64 _)) rfl rfl (pr_assign rfl) ?_
          refine TF.nil (nx_then ?_)
          -- region 14 law.go:55
          refine cw_region (clf [.U, .U, .X, .X, .U]) [0, 1, 2, 3, 4] rfl (by kernel_rfl) (by decide) ?_
          refine TF.u (v := (.pointer (some ⟨_, 0, none⟩))) rfl rfl (pr_move rfl) ?_
          refine TF.u (v := (.pointer (some ⟨_, 1, none⟩))) rfl rfl (pr_field (o' := 1) Try.underlying47 rfl (Try.ty3.s) (by decide) rfl rfl) ?_
          refine TF.load (v := (.int .i64 _)) rfl rfl (wantF_none rfl) Try.underlying3 rfl rfl ((H.blk (k := 0) rfl).at_ rfl) ?_
          obtain ⟨F71, hF71, hU71⟩ := H.focus (k := 2) rfl
          refine TF.call (args := [(.pointer (some ⟨_, 0, none⟩)), (.int .i64 _)]) Try.fn28 rfl rfl (wantF_none rfl) rfl (rtchop_ok _ _ _ _ _ hF71 okr (by omega) (by omega)) ?_
          rintro e_ w ⟨rfl, hu71, ok71⟩
          refine ⟨_, rfl, ?_⟩
          replace H := hU71 hu71
          replace H : Sat _ _ _ [_, _, _] := H
          refine TF.u (v := (.int .i64 _)) rfl rfl (pr_assign rfl) ?_
          refine TF.nil (nx_block (nx_then ?_))
          refine cw_seq ?_
          -- region 18 law.go:60
          refine cw_drawS H Try.wide_ (clf [.U, .U, .U, .U, .U, .P, .U, .U, .U, .R, .U, .U, .U, .U, .U, .P, .U, .U, .U, .R, .U, .U, .U, .U, .P, .U, .U, .U, .R, .U, .U, .U, .U, .P, .U, .U, .U, .R, .U, .U, .U]) [0, 1, 2, 3, 4, 6, 7, 8, 9, 10, 5, 11, 12, 13, 14, 16, 17, 18, 19, 15, 20, 21, 22, 23, 25, 26, 27, 28, 24, 29, 30, 31, 32, 34, 35, 36, 37, 33, 38, 39, 40] (by kernel_rfl) (by kernel_rfl) ?_
          clear H
          intro w hbr H hB
          refine TF.u (v := (.int .i64 _)) rfl rfl (pr_move rfl) ?_
          refine TF.u (v := (.int .i64 _)) rfl rfl (pr_move rfl) ?_
          refine TF.u (v := (.bool _)) rfl rfl (pr_eql rfl rfl) ?_
          refine TF.u (v := (.bool _)) rfl rfl (pr_move rfl) ?_
          refine TF.split (dj := 61) rfl ?_ (fun hq73 => by
              have hp73 := dF hq73
              exfalso
              exact hp73 rfl)
          intro hq73
          have hp73 := dT hq73
          refine TF.ug (v := (.pointer (some ⟨_, 0, none⟩))) rfl rfl (wantF_yes rfl rfl rfl hq73) (pr_move rfl) ?_
          refine TF.ug (v := (.pointer (some ⟨_, 0, none⟩))) rfl rfl (wantF_yes rfl rfl rfl hq73) (pr_move rfl) ?_
          refine TF.ug (v := (.pointer (some _))) rfl rfl (wantF_yes rfl rfl rfl hq73) (pr_nil rfl) ?_
          refine TF.ug (v := (.pointer (some ⟨_, 0, none⟩))) rfl rfl (wantF_yes rfl rfl rfl hq73) (pr_field (o' := 0) Try.underlying49 rfl (Try.ty9.s) (by decide) rfl rfl) ?_
          refine TF.loadr (v := (T _)) rfl rfl (wantF_yes rfl rfl rfl hq73) Try.underlying9 rfl rfl ((H.blk (k := 2) rfl).atB rfl) ?_
          refine TF.ug (v := (.int .i64 _)) rfl rfl (wantF_yes rfl rfl rfl hq73) (pr_slen rfl Try.underlying9 rfl) ?_
          obtain ⟨F75, hF75, hU75⟩ := H.focus (k := 1) rfl
          refine TF.callp (args := [(.pointer (some ⟨_, 0, none⟩))]) Try.fn17 rfl rfl (wantF_yes rfl rfl rfl hq73) rfl (tlen_ok _ _ _ _ hF75 ok70) ?_
          rintro e_ w ⟨rfl, hb74⟩
          refine ⟨_, rfl, fun x => Below w.heap.size w x, fun x hx => below_trans (below_trans hB hb74) hx, Below.refl _ _, ?_⟩
          replace hB := Below.refl w.heap.size w
          replace H := H.below hb74
          refine TF.ug (v := (.bool _)) rfl rfl (wantF_yes rfl rfl rfl hq73) (pr_eql rfl rfl) ?_
          refine TF.u (v := (.bool _)) rfl rfl (pr_pickT rfl hq73 rfl) ?_
          refine TF.u (v := (.bool _)) rfl rfl (pr_move rfl) ?_
          refine TF.split (dj := 71) rfl ?_ (fun hq77 => by
              have hp77 := dF hq77
              exfalso
              exact hp77 rfl)
          intro hq77
          have hp77 := dT hq77
          refine TF.ug (v := (.pointer (some ⟨_, 0, none⟩))) rfl rfl (wantF_yes rfl rfl rfl hq77) (pr_move rfl) ?_
          refine TF.ug (v := (.pointer (some ⟨_, 0, none⟩))) rfl rfl (wantF_yes rfl rfl rfl hq77) (pr_move rfl) ?_
          refine TF.ug (v := (.pointer (some _))) rfl rfl (wantF_yes rfl rfl rfl hq77) (pr_nil rfl) ?_
          refine TF.ug (v := (.pointer (some ⟨_, 1, none⟩))) rfl rfl (wantF_yes rfl rfl rfl hq77) (pr_field (o' := 1) Try.underlying49 rfl (Try.ty3.s) (by decide) rfl rfl) ?_
          refine TF.loadr (v := (.int .i64 _)) rfl rfl (wantF_yes rfl rfl rfl hq77) Try.underlying3 rfl rfl ((H.blk (k := 2) rfl).atB rfl) ?_
          obtain ⟨F79, hF79, hU79⟩ := H.focus (k := 1) rfl
          refine TF.callp (args := [(.pointer (some ⟨_, 0, none⟩))]) Try.fn15 rfl rfl (wantF_yes rfl rfl rfl hq77) rfl (tsynced_ok _ _ _ _ hF79 ok70) ?_
          rintro e_ w ⟨rfl, hb78⟩
          refine ⟨_, rfl, fun x => Below w.heap.size w x, fun x hx => below_trans (below_trans hB hb78) hx, Below.refl _ _, ?_⟩
          replace hB := Below.refl w.heap.size w
          replace H := H.below hb78
          refine TF.ug (v := (.bool _)) rfl rfl (wantF_yes rfl rfl rfl hq77) (pr_eql rfl rfl) ?_
          refine TF.u (v := (.bool _)) rfl rfl (pr_pickT rfl hq77 rfl) ?_
          refine TF.u (v := (.bool _)) rfl rfl (pr_move rfl) ?_
          refine TF.split (dj := 80) rfl ?_ (fun hq81 => by
              have hp81 := dF hq81
              exfalso
              exact hp81 rfl)
          intro hq81
          have hp81 := dT hq81
          refine TF.ug (v := (.pointer (some ⟨_, 0, none⟩))) rfl rfl (wantF_yes rfl rfl rfl hq81) (pr_move rfl) ?_
          refine TF.ug (v := (.pointer (some ⟨_, 0, none⟩))) rfl rfl (wantF_yes rfl rfl rfl hq81) (pr_move rfl) ?_
          refine TF.ug (v := (.pointer (some _))) rfl rfl (wantF_yes rfl rfl rfl hq81) (pr_nil rfl) ?_
          refine TF.ug (v := (.pointer (some ⟨_, 3, none⟩))) rfl rfl (wantF_yes rfl rfl rfl hq81) (pr_field (o' := 3) Try.underlying49 rfl (Try.ty42.s) (by decide) rfl rfl) ?_
          refine TF.loadr (v := (.int .u64 _)) rfl rfl (wantF_yes rfl rfl rfl hq81) Try.underlying42 rfl rfl ((H.blk (k := 2) rfl).atB rfl) ?_
          obtain ⟨F83, hF83, hU83⟩ := H.focus (k := 1) rfl
          refine TF.callp (args := [(.pointer (some ⟨_, 0, none⟩))]) Try.fn23 rfl rfl (wantF_yes rfl rfl rfl hq81) rfl (tstart_ok _ _ _ _ hF83 ok70) ?_
          rintro e_ w ⟨rfl, hb82⟩
          refine ⟨_, rfl, fun x => Below w.heap.size w x, fun x hx => below_trans (below_trans hB hb82) hx, Below.refl _ _, ?_⟩
          replace hB := Below.refl w.heap.size w
          replace H := H.below hb82
          refine TF.ug (v := (.bool _)) rfl rfl (wantF_yes rfl rfl rfl hq81) (pr_eql rfl rfl) ?_
          refine TF.u (v := (.bool _)) rfl rfl (pr_pickT rfl hq81 rfl) ?_
          refine TF.u (v := (.bool _)) rfl rfl (pr_move rfl) ?_
          refine TF.split (dj := 89) rfl ?_ (fun hq85 => by
              have hp85 := dF hq85
              exfalso
              exact hp85 rfl)
          intro hq85
          have hp85 := dT hq85
          refine TF.ug (v := (.pointer (some ⟨_, 0, none⟩))) rfl rfl (wantF_yes rfl rfl rfl hq85) (pr_move rfl) ?_
          refine TF.ug (v := (.pointer (some ⟨_, 0, none⟩))) rfl rfl (wantF_yes rfl rfl rfl hq85) (pr_move rfl) ?_
          refine TF.ug (v := (.pointer (some _))) rfl rfl (wantF_yes rfl rfl rfl hq85) (pr_nil rfl) ?_
          refine TF.ug (v := (.pointer (some ⟨_, 2, none⟩))) rfl rfl (wantF_yes rfl rfl rfl hq85) (pr_field (o' := 2) Try.underlying49 rfl (Try.ty3.s) (by decide) rfl rfl) ?_
          refine TF.loadr (v := (.int .i64 _)) rfl rfl (wantF_yes rfl rfl rfl hq85) Try.underlying3 rfl rfl ((H.blk (k := 2) rfl).atB rfl) ?_
          obtain ⟨F87, hF87, hU87⟩ := H.focus (k := 1) rfl
          refine TF.callp (args := [(.pointer (some ⟨_, 0, none⟩))]) Try.fn24 rfl rfl (wantF_yes rfl rfl rfl hq85) rfl (troom_ok _ _ _ _ hF87 ok70) ?_
          rintro e_ w ⟨rfl, hb86⟩
          refine ⟨_, rfl, fun x => Below w.heap.size w x, fun x hx => below_trans (below_trans hB hb86) hx, Below.refl _ _, ?_⟩
          replace hB := Below.refl w.heap.size w
          replace H := H.below hb86
          refine TF.ug (v := (.bool _)) rfl rfl (wantF_yes rfl rfl rfl hq85) (pr_eql rfl rfl) ?_
          refine TF.u (v := (.bool _)) rfl rfl (pr_pickT rfl hq85 rfl) ?_
          refine TF.u (v := (.bool _)) rfl rfl (pr_assign rfl) ?_
          clear hB
          refine TF.nil (nx_then ?_)
          refine cw_ret (fin1 (v := (.bool _)) Try.results22 rfl rfl ?_)
          have es : tStep s (oK, oN, oB) = (tChop s oN).1 := by simp only [tStep]; rw [if_neg (show ¬ oK = 1 by omega), if_neg (show ¬ oK = 2 by omega), if_neg (show ¬ oK = 3 by omega), if_pos (show oK = 4 by omega)]
          rw [es]
          have H9 : Sat F w0 _ [cSep (cTape 5 44 tb ((tChop s oN).1)) (cRTape 49 rb ((tChop s oN).1))] := (H.two (i := 1) (j := 1) rfl rfl).sep
          exact ⟨by simp, H9.toUpd (k := 0) rfl, ok70⟩
        ·
          have hp69 := dF hq69
          refine cw_seq ?_
          -- region 15 law.go:56
          refine cw_region (clf [.U, .U]) [0, 1] rfl (by kernel_rfl) (by decide) ?_
          refine TF.u (v := (.bool _)) rfl rfl (pr_eql rfl rfl) ?_
          refine TF.u (v := (.bool _)) rfl rfl (pr_assign rfl) ?_
          refine TF.nil (nx_then ?_)
          refine cw_cond _ rfl rfl (fun hq90 => ?_) (fun hq90 => ?_)
          ·
            have hp90 := dT hq90
            refine cw_seq ?_
            -- region 16 law.go:57
            refine cw_region (clf [.U, .U, .X, .X]) [0, 1, 2, 3] rfl (by kernel_rfl) (by decide) ?_
            skip
            refine TF.u (v := (.pointer (some ⟨_, 0, none⟩))) rfl rfl (pr_move rfl) ?_
            refine TF.u (v := (.pointer (some ⟨_, 1, none⟩))) rfl rfl (pr_field (o' := 1) Try.underlying47 rfl (Try.ty3.s) (by decide) rfl rfl) ?_
            refine TF.load (v := (.int .i64 _)) rfl rfl (wantF_none rfl) Try.underlying3 rfl rfl ((H.blk (k := 0) rfl).at_ rfl) ?_
            obtain ⟨F91, hF91, hU91⟩ := H.focus (k := 1) rfl
            refine TF.call (args := [(.pointer (some ⟨_, 0, none⟩)), (.int .i64 _)]) Try.fn14 rfl rfl (wantF_none rfl) rfl (tcrash_ok _ _ _ _ _ hF91 ok (by omega) (by omega)) ?_
            rintro e_ w ⟨rfl, hu91, ok91⟩
            refine ⟨_, rfl, ?_⟩
            replace H := hU91 hu91
            replace H : Sat _ _ _ [_, _, _] := H
            refine TF.nil (nx_then ?_)
            -- region 17 law.go:58
            refine cw_region (clf [.U, .U, .X, .X]) [0, 1, 2, 3] rfl (by kernel_rfl) (by decide) ?_
            refine TF.u (v := (.pointer (some ⟨_, 0, none⟩))) rfl rfl (pr_move rfl) ?_
            refine TF.u (v := (.pointer (some ⟨_, 1, none⟩))) rfl rfl (pr_field (o' := 1) Try.underlying47 rfl (Try.ty3.s) (by decide) rfl rfl) ?_
            refine TF.load (v := (.int .i64 _)) rfl rfl (wantF_none rfl) Try.underlying3 rfl rfl ((H.blk (k := 0) rfl).at_ rfl) ?_
            obtain ⟨F92, hF92, hU92⟩ := H.focus (k := 2) rfl
            refine TF.call (args := [(.pointer (some ⟨_, 0, none⟩)), (.int .i64 _)]) Try.fn29 rfl rfl (wantF_none rfl) rfl (rtcrash_ok _ _ _ _ _ hF92 okr (by omega) (by omega)) ?_
            rintro e_ w ⟨rfl, hu92, ok92⟩
            refine ⟨_, rfl, ?_⟩
            replace H := hU92 hu92
            replace H : Sat _ _ _ [_, _, _] := H
            refine TF.nil (nx_block (nx_then ?_))
            refine cw_seq ?_
            -- region 18 law.go:60
            refine cw_drawS H Try.wide_ (clf [.U, .U, .U, .U, .U, .P, .U, .U, .U, .R, .U, .U, .U, .U, .U, .P, .U, .U, .U, .R, .U, .U, .U, .U, .P, .U, .U, .U, .R, .U, .U, .U, .U, .P, .U, .U, .U, .R, .U, .U, .U]) [0, 1, 2, 3, 4, 6, 7, 8, 9, 10, 5, 11, 12, 13, 14, 16, 17, 18, 19, 15, 20, 21, 22, 23, 25, 26, 27, 28, 24, 29, 30, 31, 32, 34, 35, 36, 37, 33, 38, 39, 40] (by kernel_rfl) (by kernel_rfl) ?_
            clear H
            intro w hbr H hB
            refine TF.u (v := (.int .i64 _)) rfl rfl (pr_move rfl) ?_
            refine TF.u (v := (.int .i64 _)) rfl rfl (pr_move rfl) ?_
            refine TF.u (v := (.bool _)) rfl rfl (pr_eql rfl rfl) ?_
            refine TF.u (v := (.bool _)) rfl rfl (pr_move rfl) ?_
            refine TF.split (dj := 61) rfl ?_ (fun hq94 => by
                have hp94 := dF hq94
                exfalso
                exact hp94 rfl)
            intro hq94
            have hp94 := dT hq94
            refine TF.ug (v := (.pointer (some ⟨_, 0, none⟩))) rfl rfl (wantF_yes rfl rfl rfl hq94) (pr_move rfl) ?_
            refine TF.ug (v := (.pointer (some ⟨_, 0, none⟩))) rfl rfl (wantF_yes rfl rfl rfl hq94) (pr_move rfl) ?_
            refine TF.ug (v := (.pointer (some _))) rfl rfl (wantF_yes rfl rfl rfl hq94) (pr_nil rfl) ?_
            refine TF.ug (v := (.pointer (some ⟨_, 0, none⟩))) rfl rfl (wantF_yes rfl rfl rfl hq94) (pr_field (o' := 0) Try.underlying49 rfl (Try.ty9.s) (by decide) rfl rfl) ?_
            refine TF.loadr (v := (T _)) rfl rfl (wantF_yes rfl rfl rfl hq94) Try.underlying9 rfl rfl ((H.blk (k := 2) rfl).atB rfl) ?_
            refine TF.ug (v := (.int .i64 _)) rfl rfl (wantF_yes rfl rfl rfl hq94) (pr_slen rfl Try.underlying9 rfl) ?_
            obtain ⟨F96, hF96, hU96⟩ := H.focus (k := 1) rfl
            refine TF.callp (args := [(.pointer (some ⟨_, 0, none⟩))]) Try.fn17 rfl rfl (wantF_yes rfl rfl rfl hq94) rfl (tlen_ok _ _ _ _ hF96 ok91) ?_
            rintro e_ w ⟨rfl, hb95⟩
            refine ⟨_, rfl, fun x => Below w.heap.size w x, fun x hx => below_trans (below_trans hB hb95) hx, Below.refl _ _, ?_⟩
            replace hB := Below.refl w.heap.size w
            replace H := H.below hb95
            refine TF.ug (v := (.bool _)) rfl rfl (wantF_yes rfl rfl rfl hq94) (pr_eql rfl rfl) ?_
            refine TF.u (v := (.bool _)) rfl rfl (pr_pickT rfl hq94 rfl) ?_
            refine TF.u (v := (.bool _)) rfl rfl (pr_move rfl) ?_
            refine TF.split (dj := 71) rfl ?_ (fun hq98 => by
                have hp98 := dF hq98
                exfalso
                exact hp98 rfl)
            intro hq98
            have hp98 := dT hq98
            refine TF.ug (v := (.pointer (some ⟨_, 0, none⟩))) rfl rfl (wantF_yes rfl rfl rfl hq98) (pr_move rfl) ?_
            refine TF.ug (v := (.pointer (some ⟨_, 0, none⟩))) rfl rfl (wantF_yes rfl rfl rfl hq98) (pr_move rfl) ?_
            refine TF.ug (v := (.pointer (some _))) rfl rfl (wantF_yes rfl rfl rfl hq98) (pr_nil rfl) ?_
            refine TF.ug (v := (.pointer (some ⟨_, 1, none⟩))) rfl rfl (wantF_yes rfl rfl rfl hq98) (pr_field (o' := 1) Try.underlying49 rfl (Try.ty3.s) (by decide) rfl rfl) ?_
            refine TF.loadr (v := (.int .i64 _)) rfl rfl (wantF_yes rfl rfl rfl hq98) Try.underlying3 rfl rfl ((H.blk (k := 2) rfl).atB rfl) ?_
            obtain ⟨F100, hF100, hU100⟩ := H.focus (k := 1) rfl
            refine TF.callp (args := [(.pointer (some ⟨_, 0, none⟩))]) Try.fn15 rfl rfl (wantF_yes rfl rfl rfl hq98) rfl (tsynced_ok _ _ _ _ hF100 ok91) ?_
            rintro e_ w ⟨rfl, hb99⟩
            refine ⟨_, rfl, fun x => Below w.heap.size w x, fun x hx => below_trans (below_trans hB hb99) hx, Below.refl _ _, ?_⟩
            replace hB := Below.refl w.heap.size w
            replace H := H.below hb99
            refine TF.ug (v := (.bool _)) rfl rfl (wantF_yes rfl rfl rfl hq98) (pr_eql rfl rfl) ?_
            refine TF.u (v := (.bool _)) rfl rfl (pr_pickT rfl hq98 rfl) ?_
            refine TF.u (v := (.bool _)) rfl rfl (pr_move rfl) ?_
            refine TF.split (dj := 80) rfl ?_ (fun hq102 => by
                have hp102 := dF hq102
                exfalso
                exact hp102 rfl)
            intro hq102
            have hp102 := dT hq102
            refine TF.ug (v := (.pointer (some ⟨_, 0, none⟩))) rfl rfl (wantF_yes rfl rfl rfl hq102) (pr_move rfl) ?_
            refine TF.ug (v := (.pointer (some ⟨_, 0, none⟩))) rfl rfl (wantF_yes rfl rfl rfl hq102) (pr_move rfl) ?_
            refine TF.ug (v := (.pointer (some _))) rfl rfl (wantF_yes rfl rfl rfl hq102) (pr_nil rfl) ?_
            refine TF.ug (v := (.pointer (some ⟨_, 3, none⟩))) rfl rfl (wantF_yes rfl rfl rfl hq102) (pr_field (o' := 3) Try.underlying49 rfl (Try.ty42.s) (by decide) rfl rfl) ?_
            refine TF.loadr (v := (.int .u64 _)) rfl rfl (wantF_yes rfl rfl rfl hq102) Try.underlying42 rfl rfl ((H.blk (k := 2) rfl).atB rfl) ?_
            obtain ⟨F104, hF104, hU104⟩ := H.focus (k := 1) rfl
            refine TF.callp (args := [(.pointer (some ⟨_, 0, none⟩))]) Try.fn23 rfl rfl (wantF_yes rfl rfl rfl hq102) rfl (tstart_ok _ _ _ _ hF104 ok91) ?_
            rintro e_ w ⟨rfl, hb103⟩
            refine ⟨_, rfl, fun x => Below w.heap.size w x, fun x hx => below_trans (below_trans hB hb103) hx, Below.refl _ _, ?_⟩
            replace hB := Below.refl w.heap.size w
            replace H := H.below hb103
            refine TF.ug (v := (.bool _)) rfl rfl (wantF_yes rfl rfl rfl hq102) (pr_eql rfl rfl) ?_
            refine TF.u (v := (.bool _)) rfl rfl (pr_pickT rfl hq102 rfl) ?_
            refine TF.u (v := (.bool _)) rfl rfl (pr_move rfl) ?_
            refine TF.split (dj := 89) rfl ?_ (fun hq106 => by
                have hp106 := dF hq106
                exfalso
                exact hp106 rfl)
            intro hq106
            have hp106 := dT hq106
            refine TF.ug (v := (.pointer (some ⟨_, 0, none⟩))) rfl rfl (wantF_yes rfl rfl rfl hq106) (pr_move rfl) ?_
            refine TF.ug (v := (.pointer (some ⟨_, 0, none⟩))) rfl rfl (wantF_yes rfl rfl rfl hq106) (pr_move rfl) ?_
            refine TF.ug (v := (.pointer (some _))) rfl rfl (wantF_yes rfl rfl rfl hq106) (pr_nil rfl) ?_
            refine TF.ug (v := (.pointer (some ⟨_, 2, none⟩))) rfl rfl (wantF_yes rfl rfl rfl hq106) (pr_field (o' := 2) Try.underlying49 rfl (Try.ty3.s) (by decide) rfl rfl) ?_
            refine TF.loadr (v := (.int .i64 _)) rfl rfl (wantF_yes rfl rfl rfl hq106) Try.underlying3 rfl rfl ((H.blk (k := 2) rfl).atB rfl) ?_
            obtain ⟨F108, hF108, hU108⟩ := H.focus (k := 1) rfl
            refine TF.callp (args := [(.pointer (some ⟨_, 0, none⟩))]) Try.fn24 rfl rfl (wantF_yes rfl rfl rfl hq106) rfl (troom_ok _ _ _ _ hF108 ok91) ?_
            rintro e_ w ⟨rfl, hb107⟩
            refine ⟨_, rfl, fun x => Below w.heap.size w x, fun x hx => below_trans (below_trans hB hb107) hx, Below.refl _ _, ?_⟩
            replace hB := Below.refl w.heap.size w
            replace H := H.below hb107
            refine TF.ug (v := (.bool _)) rfl rfl (wantF_yes rfl rfl rfl hq106) (pr_eql rfl rfl) ?_
            refine TF.u (v := (.bool _)) rfl rfl (pr_pickT rfl hq106 rfl) ?_
            refine TF.u (v := (.bool _)) rfl rfl (pr_assign rfl) ?_
            clear hB
            refine TF.nil (nx_then ?_)
            refine cw_ret (fin1 (v := (.bool _)) Try.results22 rfl rfl ?_)
            have es : tStep s (oK, oN, oB) = tCrash s oN := by simp only [tStep]; rw [if_neg (show ¬ oK = 1 by omega), if_neg (show ¬ oK = 2 by omega), if_neg (show ¬ oK = 3 by omega), if_neg (show ¬ oK = 4 by omega), if_pos (show oK = 5 by omega)]
            rw [es]
            have H9 : Sat F w0 _ [cSep (cTape 5 44 tb (tCrash s oN)) (cRTape 49 rb (tCrash s oN))] := (H.two (i := 1) (j := 1) rfl rfl).sep
            exact ⟨by simp, H9.toUpd (k := 0) rfl, ok91⟩
          ·
            have hp90 := dF hq90
            refine cw_skip (nx_block (nx_then ?_))
            refine cw_seq ?_
            -- region 18 law.go:60
            refine cw_drawS H Try.wide_ (clf [.U, .U, .U, .U, .U, .P, .U, .U, .U, .R, .U, .U, .U, .U, .U, .P, .U, .U, .U, .R, .U, .U, .U, .U, .P, .U, .U, .U, .R, .U, .U, .U, .U, .P, .U, .U, .U, .R, .U, .U, .U]) [0, 1, 2, 3, 4, 6, 7, 8, 9, 10, 5, 11, 12, 13, 14, 16, 17, 18, 19, 15, 20, 21, 22, 23, 25, 26, 27, 28, 24, 29, 30, 31, 32, 34, 35, 36, 37, 33, 38, 39, 40] (by kernel_rfl) (by kernel_rfl) ?_
            clear H
            intro w hbr H hB
            refine TF.u (v := (.int .i64 _)) rfl rfl (pr_move rfl) ?_
            refine TF.u (v := (.int .i64 _)) rfl rfl (pr_move rfl) ?_
            refine TF.u (v := (.bool _)) rfl rfl (pr_eql rfl rfl) ?_
            refine TF.u (v := (.bool _)) rfl rfl (pr_move rfl) ?_
            refine TF.split (dj := 61) rfl ?_ (fun hq111 => by
                have hp111 := dF hq111
                exfalso
                exact hp111 rfl)
            intro hq111
            have hp111 := dT hq111
            refine TF.ug (v := (.pointer (some ⟨_, 0, none⟩))) rfl rfl (wantF_yes rfl rfl rfl hq111) (pr_move rfl) ?_
            refine TF.ug (v := (.pointer (some ⟨_, 0, none⟩))) rfl rfl (wantF_yes rfl rfl rfl hq111) (pr_move rfl) ?_
            refine TF.ug (v := (.pointer (some _))) rfl rfl (wantF_yes rfl rfl rfl hq111) (pr_nil rfl) ?_
            refine TF.ug (v := (.pointer (some ⟨_, 0, none⟩))) rfl rfl (wantF_yes rfl rfl rfl hq111) (pr_field (o' := 0) Try.underlying49 rfl (Try.ty9.s) (by decide) rfl rfl) ?_
            refine TF.loadr (v := (T _)) rfl rfl (wantF_yes rfl rfl rfl hq111) Try.underlying9 rfl rfl ((H.blk (k := 2) rfl).atB rfl) ?_
            refine TF.ug (v := (.int .i64 _)) rfl rfl (wantF_yes rfl rfl rfl hq111) (pr_slen rfl Try.underlying9 rfl) ?_
            obtain ⟨F113, hF113, hU113⟩ := H.focus (k := 1) rfl
            refine TF.callp (args := [(.pointer (some ⟨_, 0, none⟩))]) Try.fn17 rfl rfl (wantF_yes rfl rfl rfl hq111) rfl (tlen_ok _ _ _ _ hF113 ok) ?_
            rintro e_ w ⟨rfl, hb112⟩
            refine ⟨_, rfl, fun x => Below w.heap.size w x, fun x hx => below_trans (below_trans hB hb112) hx, Below.refl _ _, ?_⟩
            replace hB := Below.refl w.heap.size w
            replace H := H.below hb112
            refine TF.ug (v := (.bool _)) rfl rfl (wantF_yes rfl rfl rfl hq111) (pr_eql rfl rfl) ?_
            refine TF.u (v := (.bool _)) rfl rfl (pr_pickT rfl hq111 rfl) ?_
            refine TF.u (v := (.bool _)) rfl rfl (pr_move rfl) ?_
            refine TF.split (dj := 71) rfl ?_ (fun hq115 => by
                have hp115 := dF hq115
                exfalso
                exact hp115 rfl)
            intro hq115
            have hp115 := dT hq115
            refine TF.ug (v := (.pointer (some ⟨_, 0, none⟩))) rfl rfl (wantF_yes rfl rfl rfl hq115) (pr_move rfl) ?_
            refine TF.ug (v := (.pointer (some ⟨_, 0, none⟩))) rfl rfl (wantF_yes rfl rfl rfl hq115) (pr_move rfl) ?_
            refine TF.ug (v := (.pointer (some _))) rfl rfl (wantF_yes rfl rfl rfl hq115) (pr_nil rfl) ?_
            refine TF.ug (v := (.pointer (some ⟨_, 1, none⟩))) rfl rfl (wantF_yes rfl rfl rfl hq115) (pr_field (o' := 1) Try.underlying49 rfl (Try.ty3.s) (by decide) rfl rfl) ?_
            refine TF.loadr (v := (.int .i64 _)) rfl rfl (wantF_yes rfl rfl rfl hq115) Try.underlying3 rfl rfl ((H.blk (k := 2) rfl).atB rfl) ?_
            obtain ⟨F117, hF117, hU117⟩ := H.focus (k := 1) rfl
            refine TF.callp (args := [(.pointer (some ⟨_, 0, none⟩))]) Try.fn15 rfl rfl (wantF_yes rfl rfl rfl hq115) rfl (tsynced_ok _ _ _ _ hF117 ok) ?_
            rintro e_ w ⟨rfl, hb116⟩
            refine ⟨_, rfl, fun x => Below w.heap.size w x, fun x hx => below_trans (below_trans hB hb116) hx, Below.refl _ _, ?_⟩
            replace hB := Below.refl w.heap.size w
            replace H := H.below hb116
            refine TF.ug (v := (.bool _)) rfl rfl (wantF_yes rfl rfl rfl hq115) (pr_eql rfl rfl) ?_
            refine TF.u (v := (.bool _)) rfl rfl (pr_pickT rfl hq115 rfl) ?_
            refine TF.u (v := (.bool _)) rfl rfl (pr_move rfl) ?_
            refine TF.split (dj := 80) rfl ?_ (fun hq119 => by
                have hp119 := dF hq119
                exfalso
                exact hp119 rfl)
            intro hq119
            have hp119 := dT hq119
            refine TF.ug (v := (.pointer (some ⟨_, 0, none⟩))) rfl rfl (wantF_yes rfl rfl rfl hq119) (pr_move rfl) ?_
            refine TF.ug (v := (.pointer (some ⟨_, 0, none⟩))) rfl rfl (wantF_yes rfl rfl rfl hq119) (pr_move rfl) ?_
            refine TF.ug (v := (.pointer (some _))) rfl rfl (wantF_yes rfl rfl rfl hq119) (pr_nil rfl) ?_
            refine TF.ug (v := (.pointer (some ⟨_, 3, none⟩))) rfl rfl (wantF_yes rfl rfl rfl hq119) (pr_field (o' := 3) Try.underlying49 rfl (Try.ty42.s) (by decide) rfl rfl) ?_
            refine TF.loadr (v := (.int .u64 _)) rfl rfl (wantF_yes rfl rfl rfl hq119) Try.underlying42 rfl rfl ((H.blk (k := 2) rfl).atB rfl) ?_
            obtain ⟨F121, hF121, hU121⟩ := H.focus (k := 1) rfl
            refine TF.callp (args := [(.pointer (some ⟨_, 0, none⟩))]) Try.fn23 rfl rfl (wantF_yes rfl rfl rfl hq119) rfl (tstart_ok _ _ _ _ hF121 ok) ?_
            rintro e_ w ⟨rfl, hb120⟩
            refine ⟨_, rfl, fun x => Below w.heap.size w x, fun x hx => below_trans (below_trans hB hb120) hx, Below.refl _ _, ?_⟩
            replace hB := Below.refl w.heap.size w
            replace H := H.below hb120
            refine TF.ug (v := (.bool _)) rfl rfl (wantF_yes rfl rfl rfl hq119) (pr_eql rfl rfl) ?_
            refine TF.u (v := (.bool _)) rfl rfl (pr_pickT rfl hq119 rfl) ?_
            refine TF.u (v := (.bool _)) rfl rfl (pr_move rfl) ?_
            refine TF.split (dj := 89) rfl ?_ (fun hq123 => by
                have hp123 := dF hq123
                exfalso
                exact hp123 rfl)
            intro hq123
            have hp123 := dT hq123
            refine TF.ug (v := (.pointer (some ⟨_, 0, none⟩))) rfl rfl (wantF_yes rfl rfl rfl hq123) (pr_move rfl) ?_
            refine TF.ug (v := (.pointer (some ⟨_, 0, none⟩))) rfl rfl (wantF_yes rfl rfl rfl hq123) (pr_move rfl) ?_
            refine TF.ug (v := (.pointer (some _))) rfl rfl (wantF_yes rfl rfl rfl hq123) (pr_nil rfl) ?_
            refine TF.ug (v := (.pointer (some ⟨_, 2, none⟩))) rfl rfl (wantF_yes rfl rfl rfl hq123) (pr_field (o' := 2) Try.underlying49 rfl (Try.ty3.s) (by decide) rfl rfl) ?_
            refine TF.loadr (v := (.int .i64 _)) rfl rfl (wantF_yes rfl rfl rfl hq123) Try.underlying3 rfl rfl ((H.blk (k := 2) rfl).atB rfl) ?_
            obtain ⟨F125, hF125, hU125⟩ := H.focus (k := 1) rfl
            refine TF.callp (args := [(.pointer (some ⟨_, 0, none⟩))]) Try.fn24 rfl rfl (wantF_yes rfl rfl rfl hq123) rfl (troom_ok _ _ _ _ hF125 ok) ?_
            rintro e_ w ⟨rfl, hb124⟩
            refine ⟨_, rfl, fun x => Below w.heap.size w x, fun x hx => below_trans (below_trans hB hb124) hx, Below.refl _ _, ?_⟩
            replace hB := Below.refl w.heap.size w
            replace H := H.below hb124
            refine TF.ug (v := (.bool _)) rfl rfl (wantF_yes rfl rfl rfl hq123) (pr_eql rfl rfl) ?_
            refine TF.u (v := (.bool _)) rfl rfl (pr_pickT rfl hq123 rfl) ?_
            refine TF.u (v := (.bool _)) rfl rfl (pr_assign rfl) ?_
            clear hB
            refine TF.nil (nx_then ?_)
            refine cw_ret (fin1 (v := (.bool _)) Try.results22 rfl rfl ?_)
            have es : tStep s (oK, oN, oB) = s := by simp only [tStep]; rw [if_neg (show ¬ oK = 1 by omega), if_neg (show ¬ oK = 2 by omega), if_neg (show ¬ oK = 3 by omega), if_neg (show ¬ oK = 4 by omega), if_neg (show ¬ oK = 5 by omega)]
            rw [es]
            have H9 : Sat F w0 _ [cSep (cTape 5 44 tb (s)) (cRTape 49 rb (s))] := (H.two (i := 1) (j := 1) rfl rfl).sep
            exact ⟨by simp, H9.toUpd (k := 0) rfl, ok⟩
end Go.Proofs.Ytdanpfiombbdoaa
