/- What the functions of this seat compute, each walked once (no condition but those in each statement): store.Store).Pages#nil, store.Store).Pages#zero, store.Store).there#no, store.Store).Out#no, store.Store).Read#no, store.Store).Image#no, store.Store).Write#no, store.Store).Mend#no -/
import Derived.Test.YtpncaeadbfdflaaCore7
import Derived.Test.YtpncaeadbfdflaaMath
import Derived.Test.YtpncaeadbfdflaaMath1
import Derived.Test.YtpncaeadbfdflaaCrc
import Derived.Test.YtpncaeadbfdflaaCrc2
import Derived.Test.YtpncaeadbfdflaaCrc3
import Derived.Test.YtpncaeadbfdflaaCore8
import Derived.Test.YtpncaeadbfdflaaCore9
import Derived.Test.YtpncaeadbfdflaaCore10
import Derived.Test.YtpncaeadbfdflaaCore11
import Derived.Test.YtpncaeadbfdflaaPage
import Derived.Test.YtpncaeadbfdflaaPageV
import Derived.Test.YtpncaeadbfdflaaArgs
import Derived.Test.YtpncaeadbfdflaaPage2
import Derived.Test.YtpncaeadbfdflaaArgsP
import Derived.Test.YtpncaeadbfdflaaCore12
import Derived.Test.YtpncaeadbfdflaaPage3
import Derived.Test.YtpncaeadbfdflaaCore13
import Derived.Test.YtpncaeadbfdflaaCore14
import Derived.Test.YtpncaeadbfdflaaStore
import Derived.Test.YtpncaeadbfdflaaStoreV
import Derived.Test.YtpncaeadbfdflaaStoreR
import Derived.Test.YtpncaeadbfdflaaStoreS
import Derived.Test.YtpncaeadbfdflaaStoreL
import Derived.Test.YtpncaeadbfdflaaProg
import Derived.KernelRfl
import Derived.Test.YtpncaeadbfdflaaFns5
set_option linter.unusedSimpArgs false
set_option linter.unusedVariables false
set_option maxRecDepth 10000
namespace Go.Proofs.Ytpncaeadbfdflaa
open Go.Q Go.RowKit Go.Proofs
theorem spages_nil (w0 : World) :
    Calls Try.prog 17 #[.pointer none] w0 fun e w => e = .returned (.int .i64 0) ∧ Below w0.heap.size w0 w := by
  refine enter (args := [.pointer none]) Try.func17 rfl Try.ntmps17 rfl ?_
  have H := Sat.start w0
  refine cw_seq ?_
  -- region 0 store.go:56
  refine cw_region (clf [.U]) [0] rfl (by kernel_rfl) (by decide) ?_
  refine TF.u (v := (.int .i64 _)) rfl rfl (pr_assign rfl) ?_
  refine TF.nil (nx_then ?_)
  refine cw_seq ?_
  refine cw_seq ?_
  -- region 1 store.go:57
  refine cw_region (clf [.U, .U]) [0, 1] rfl (by kernel_rfl) (by decide) ?_
  refine TF.u (v := (.pointer none)) rfl rfl (pr_move rfl) ?_
  refine TF.u (v := (.bool _)) rfl rfl (pr_peql Try.underlying30 rfl rfl) ?_
  refine TF.nil (nx_then ?_)
  refine cw_condT (t := _) rfl rfl rfl ?_
  refine cw_seq ?_
  -- region 2 store.go:58
  refine cw_region (clf [.U]) [0] rfl (by kernel_rfl) (by decide) ?_
  refine TF.u (v := (.int .i64 _)) rfl rfl (pr_assign rfl) ?_
  refine TF.nil (nx_then ?_)
  refine cw_ret (rt_then (fin1 (v := (.int .i64 _)) Try.results17 rfl rfl ?_))
  exact ⟨rfl, H.base⟩

theorem spages_zero (sb : Nat) (w0 : World) (hblk : Blk w0 sb 65 (sbV noSB)) :
    Calls Try.prog 17 #[.pointer (some ⟨sb, 0, none⟩)] w0 fun e w => e = .returned (.int .i64 0) ∧ Below w0.heap.size w0 w := by
  refine enter (args := [.pointer (some ⟨sb, 0, none⟩)]) Try.func17 rfl Try.ntmps17 rfl ?_
  have H := Sat.start w0
  refine cw_seq ?_
  -- region 0 store.go:56
  refine cw_region (clf [.U]) [0] rfl (by kernel_rfl) (by decide) ?_
  refine TF.u (v := (.int .i64 _)) rfl rfl (pr_assign rfl) ?_
  refine TF.nil (nx_then ?_)
  refine cw_seq ?_
  refine cw_seq ?_
  -- region 1 store.go:57
  refine cw_region (clf [.U, .U]) [0, 1] rfl (by kernel_rfl) (by decide) ?_
  refine TF.u (v := (.pointer (some ⟨_, 0, none⟩))) rfl rfl (pr_move rfl) ?_
  refine TF.u (v := (.bool _)) rfl rfl (pr_peql Try.underlying30 rfl rfl) ?_
  refine TF.nil (nx_then ?_)
  refine cw_condF (t := _) rfl rfl rfl ?_
  refine cw_skip (nx_then ?_)
  refine cw_seq ?_
  -- region 3 store.go:60
  refine cw_region (clf [.U, .U, .U, .X, .U, .U]) [0, 1, 2, 3, 4, 5] rfl (by kernel_rfl) (by decide) ?_
  refine TF.u (v := (.pointer (some ⟨_, 0, none⟩))) rfl rfl (pr_move rfl) ?_
  refine TF.u (v := (.pointer (some _))) rfl rfl (pr_nil rfl) ?_
  refine TF.u (v := (.pointer (some ⟨_, 0, none⟩))) rfl rfl (pr_field (o' := 0) Try.underlying65 rfl (Try.ty57.s) (by decide) rfl rfl) ?_
  refine TF.load (v := (.slice noSB.A _ _)) rfl rfl (wantF_none rfl) Try.underlying57 rfl rfl ((hblk.below H.base).at_ rfl) ?_
  refine TF.u (v := (.int .i64 _)) rfl rfl (pr_len rfl Try.underlying57 rfl) ?_
  refine TF.u (v := (.int .i64 _)) rfl rfl (pr_assign rfl) ?_
  refine TF.nil (nx_then ?_)
  refine cw_ret (fin1 (v := (.int .i64 _)) Try.results17 rfl rfl ?_)
  exact ⟨rfl, H.base⟩
theorem spages_no (p : Option Addr) (w0 : World) (hz : p = none ∨ ∃ sb, p = some ⟨sb, 0, none⟩ ∧ Blk w0 sb 65 (sbV noSB)) :
    Calls Try.prog 17 #[.pointer p] w0 fun e w => e = .returned (.int .i64 0) ∧ Below w0.heap.size w0 w := by
  rcases hz with rfl | ⟨sb, rfl, hb⟩
  · exact spages_nil w0
  · exact spages_zero sb w0 hb

theorem sthere_no (p : Option Addr) (w0 : World) (hz : p = none ∨ ∃ sb, p = some ⟨sb, 0, none⟩ ∧ Blk w0 sb 65 (sbV noSB)) (id : Int)  :
    Calls Try.prog 29 #[.pointer p, .int .i64 id] w0 fun e w => e = .returned (.bool false) ∧ Below w0.heap.size w0 w := by
  refine enter (args := [.pointer p, .int .i64 id]) Try.func29 rfl Try.ntmps29 rfl ?_
  have H := Sat.start w0
  refine cw_seq ?_
  -- region 0 store.go:63
  refine cw_region (clf [.U]) [0] rfl (by kernel_rfl) (by decide) ?_
  refine TF.u (v := (.bool _)) rfl rfl (pr_assign rfl) ?_
  refine TF.nil (nx_then ?_)
  refine cw_seq ?_
  -- region 1 store.go:63
  refine cw_region (clf [.U, .U, .U, .U, .U, .X, .U, .U, .U]) [0, 1, 2, 3, 4, 5, 6, 7, 8] rfl (by kernel_rfl) (by decide) ?_
  refine TF.u (v := (.int .i64 _)) rfl rfl (pr_move rfl) ?_
  refine TF.u (v := (.bool _)) rfl rfl (pr_geq rfl rfl) ?_
  refine TF.u (v := (.bool _)) rfl rfl (pr_move rfl) ?_
  refine TF.split (dj := 7) rfl (fun hq2 => ?_) (fun hq2 => ?_)
  ·
    have hp2 := dT hq2
    refine TF.ug (v := (.int .i64 _)) rfl rfl (wantF_yes rfl rfl rfl hq2) (pr_move rfl) ?_
    refine TF.ug (v := (.pointer p)) rfl rfl (wantF_yes rfl rfl rfl hq2) (pr_move rfl) ?_
    refine TF.call (args := [(.pointer p)]) Try.fn17 rfl rfl (wantF_yes rfl rfl rfl hq2) rfl (spages_no _ _ (hz.imp (fun h_ => h_) fun ⟨sb_, e_, h_⟩ => ⟨sb_, e_, h_.below H.base⟩) ) ?_
    rintro e_ w ⟨rfl, hb3⟩
    refine ⟨_, rfl, ?_⟩
    replace H := H.below hb3
    refine TF.ug (v := (.bool _)) rfl rfl (wantF_yes rfl rfl rfl hq2) (pr_lss rfl rfl) ?_
    refine TF.u (v := (.bool _)) rfl rfl (pr_pickT rfl hq2 rfl) ?_
    refine TF.u (v := (.bool _)) rfl rfl (pr_assign rfl) ?_
    refine TF.nil (nx_then ?_)
    refine cw_ret (fin1 (v := (.bool _)) Try.results29 rfl rfl ?_)
    exact ⟨by first | rfl | (simp; omega) | simp_all, H.base⟩
  ·
    have hp2 := dF hq2
    refine TF.skip rfl (wantF_no rfl rfl rfl hq2) ?_
    refine TF.skip rfl (wantF_no rfl rfl rfl hq2) ?_
    refine TF.skip rfl (wantF_no rfl rfl rfl hq2) ?_
    refine TF.skip rfl (wantF_no rfl rfl rfl hq2) ?_
    refine TF.u (v := (.bool _)) rfl rfl (pr_pickF rfl hq2 rfl) ?_
    refine TF.u (v := (.bool _)) rfl rfl (pr_assign rfl) ?_
    refine TF.nil (nx_then ?_)
    refine cw_ret (fin1 (v := (.bool _)) Try.results29 rfl rfl ?_)
    exact ⟨by first | rfl | (simp; omega) | simp_all, H.base⟩

theorem sout_no (p : Option Addr) (w0 : World) (hz : p = none ∨ ∃ sb, p = some ⟨sb, 0, none⟩ ∧ Blk w0 sb 65 (sbV noSB)) (n : Int)  :
    Calls Try.prog 18 #[.pointer p, .int .i64 n] w0 fun e w => e = .returned (.bool false) ∧ Below w0.heap.size w0 w := by
  refine enter (args := [.pointer p, .int .i64 n]) Try.func18 rfl Try.ntmps18 rfl ?_
  have H := Sat.start w0
  refine cw_seq ?_
  -- region 0 store.go:149
  refine cw_region (clf [.U]) [0] rfl (by kernel_rfl) (by decide) ?_
  refine TF.u (v := (.bool _)) rfl rfl (pr_assign rfl) ?_
  refine TF.nil (nx_then ?_)
  refine cw_seq ?_
  -- region 1 store.go:149
  refine cw_region (clf [.U, .X, .U, .U, .U, .X, .U, .U, .U, .U, .U, .U, .U, .U, .X, .U, .U]) [0, 1, 2, 3, 4, 5, 6, 7, 8, 9, 10, 11, 12, 13, 14, 15, 16] rfl (by kernel_rfl) (by decide) ?_
  refine TF.u (v := (.pointer p)) rfl rfl (pr_move rfl) ?_
  refine TF.call (args := [(.pointer p)]) Try.fn17 rfl rfl (wantF_none rfl) rfl (spages_no _ _ (hz.imp (fun h_ => h_) fun ⟨sb_, e_, h_⟩ => ⟨sb_, e_, h_.below H.base⟩) ) ?_
  rintro e_ w ⟨rfl, hb1⟩
  refine ⟨_, rfl, ?_⟩
  replace H := H.below hb1
  refine TF.u (v := (.bool _)) rfl rfl (pr_gtr rfl rfl) ?_
  refine TF.u (v := (.bool _)) rfl rfl (pr_move rfl) ?_
  refine TF.split (dj := 8) rfl (fun hq4 => by
      have hp4 := dT hq4
      exfalso
      omega) ?_
  intro hq4
  have hp4 := dF hq4
  refine TF.skip rfl (wantF_no rfl rfl rfl hq4) ?_
  refine TF.skip rfl (wantF_no rfl rfl rfl hq4) ?_
  refine TF.u (v := (.bool _)) rfl rfl (pr_pickF rfl hq4 rfl) ?_
  refine TF.u (v := (.bool _)) rfl rfl (pr_move rfl) ?_
  refine TF.skip rfl (wantF_no rfl rfl rfl rfl) ?_
  refine TF.skip rfl (wantF_no rfl rfl rfl rfl) ?_
  refine TF.skip rfl (wantF_no rfl rfl rfl rfl) ?_
  refine TF.skip rfl (wantF_no rfl rfl rfl rfl) ?_
  refine TF.skip rfl (wantF_no rfl rfl rfl rfl) ?_
  refine TF.skip rfl (wantF_no rfl rfl rfl rfl) ?_
  refine TF.skip rfl (wantF_no rfl rfl rfl rfl) ?_
  refine TF.u (v := (.bool _)) rfl rfl (pr_pickF rfl rfl rfl) ?_
  refine TF.u (v := (.bool _)) rfl rfl (pr_assign rfl) ?_
  refine TF.nil (nx_then ?_)
  refine cw_ret (fin1 (v := (.bool _)) Try.results18 rfl rfl ?_)
  exact ⟨rfl, H.base⟩

theorem sread_no (p : Option Addr) (w0 : World) (hz : p = none ∨ ∃ sb, p = some ⟨sb, 0, none⟩ ∧ Blk w0 sb 65 (sbV noSB)) (id : Int)  :
    Calls Try.prog 15 #[.pointer p, .int .i64 id] w0 fun e w => e = .returned (.tuple #[.agg ⟨pgV noPg⟩, .int .i64 1]) ∧ Below w0.heap.size w0 w := by
  refine enter (args := [.pointer p, .int .i64 id]) Try.func15 rfl Try.ntmps15 rfl ?_
  have H := Sat.start w0
  refine cw_seq ?_
  -- region 0 store.go:133
  refine cw_region (clf [.X, .U]) [0, 1] rfl (by kernel_rfl) (by decide) ?_
  refine TF.alloc H rfl (Cx.xx rfl) (wantF_none rfl) (Try.ty27) rfl ?_
  clear H
  intro bk1 w hltbk1 hb2 H
  replace H : Sat _ _ _ (cBlk _ _ (pgV noPg) :: _) := H
  replace H : Sat _ _ _ [_] := H
  refine TF.u (v := (.int .i64 _)) rfl rfl (pr_assign rfl) ?_
  refine TF.nil (nx_then ?_)
  refine cw_seq ?_
  refine cw_seq ?_
  -- region 1 store.go:134
  refine cw_region (clf [.U, .U, .X, .U]) [0, 1, 2, 3] rfl (by kernel_rfl) (by decide) ?_
  refine TF.u (v := (.pointer p)) rfl rfl (pr_move rfl) ?_
  refine TF.u (v := (.int .i64 _)) rfl rfl (pr_move rfl) ?_
  refine TF.call (args := [(.pointer p), (.int .i64 _)]) Try.fn29 rfl rfl (wantF_none rfl) rfl (sthere_no _ _ (hz.imp (fun h_ => h_) fun ⟨sb_, e_, h_⟩ => ⟨sb_, e_, h_.below H.base⟩) _) ?_
  rintro e_ w ⟨rfl, hb3⟩
  refine ⟨_, rfl, ?_⟩
  replace H := H.below hb3
  refine TF.u (v := (.bool _)) rfl rfl (pr_not rfl) ?_
  refine TF.nil (nx_then ?_)
  refine cw_condT (t := _) rfl rfl rfl ?_
  refine cw_seq ?_
  -- region 2 store.go:135
  refine cw_region (clf [.U, .X, .U]) [0, 1, 2] rfl (by kernel_rfl) (by decide) ?_
  refine TF.u (v := (.agg ⟨pgV noPg⟩)) rfl rfl (pr_build (cs := pgV noPg) Try.bld27 rfl rfl) ?_
  refine TF.storeN (q := 0) (cs' := pgV noPg) H rfl rfl rfl (wantF_none rfl) (Try.ty27.s) rfl rfl (pgV_len noPg_ok.len) (pgV_one _) (by have h_ : (pgV noPg).length = 17 := (pgV_len noPg_ok.len); omega) (store_all (pgV_len noPg_ok.len)) ?_
  clear H
  intro w ho5 H
  replace H : Sat _ _ _ [_] := H
  refine TF.u (v := (.int .i64 _)) rfl rfl (pr_assign rfl) ?_
  refine TF.nil (nx_then ?_)
  refine cw_ret (rt_then (finC2 (v := (.int .i64 _)) (cs := pgV noPg) Try.results15 rfl rfl (Try.ty27.s) rfl rfl (H.blk (k := 0) rfl) (pgV_len noPg_ok.len) rfl ?_))
  exact ⟨rfl, H.base⟩

theorem simage_no (p : Option Addr) (w0 : World) (hz : p = none ∨ ∃ sb, p = some ⟨sb, 0, none⟩ ∧ Blk w0 sb 65 (sbV noSB)) (id : Int)  :
    Calls Try.prog 14 #[.pointer p, .int .i64 id] w0 fun e w => e = .returned (.tuple #[.slice none 0 0, .int .i64 1]) ∧ Below w0.heap.size w0 w := by
  refine enter (args := [.pointer p, .int .i64 id]) Try.func14 rfl Try.ntmps14 rfl ?_
  have H := Sat.start w0
  refine cw_seq ?_
  -- region 0 store.go:141
  refine cw_region (clf [.U, .U]) [0, 1] rfl (by kernel_rfl) (by decide) ?_
  refine TF.u (v := (.slice _ _ _)) rfl rfl (pr_assign rfl) ?_
  refine TF.u (v := (.int .i64 _)) rfl rfl (pr_assign rfl) ?_
  refine TF.nil (nx_then ?_)
  refine cw_seq ?_
  refine cw_seq ?_
  -- region 1 store.go:142
  refine cw_region (clf [.U, .U, .X, .U]) [0, 1, 2, 3] rfl (by kernel_rfl) (by decide) ?_
  refine TF.u (v := (.pointer p)) rfl rfl (pr_move rfl) ?_
  refine TF.u (v := (.int .i64 _)) rfl rfl (pr_move rfl) ?_
  refine TF.call (args := [(.pointer p), (.int .i64 _)]) Try.fn29 rfl rfl (wantF_none rfl) rfl (sthere_no _ _ (hz.imp (fun h_ => h_) fun ⟨sb_, e_, h_⟩ => ⟨sb_, e_, h_.below H.base⟩) _) ?_
  rintro e_ w ⟨rfl, hb1⟩
  refine ⟨_, rfl, ?_⟩
  replace H := H.below hb1
  refine TF.u (v := (.bool _)) rfl rfl (pr_not rfl) ?_
  refine TF.nil (nx_then ?_)
  refine cw_condT (t := _) rfl rfl rfl ?_
  refine cw_seq ?_
  -- region 2 store.go:143
  refine cw_region (clf [.U, .U]) [0, 1] rfl (by kernel_rfl) (by decide) ?_
  refine TF.u (v := (.slice _ _ _)) rfl rfl (pr_assign rfl) ?_
  refine TF.u (v := (.int .i64 _)) rfl rfl (pr_assign rfl) ?_
  refine TF.nil (nx_then ?_)
  refine cw_ret (rt_then (fin2 (v := (.slice _ _ _)) (v' := (.int .i64 _)) Try.results14 rfl rfl rfl rfl ?_))
  exact ⟨rfl, H.base⟩

theorem swrite_no (p : Option Addr) (w0 : World) (hz : p = none ∨ ∃ sb, p = some ⟨sb, 0, none⟩ ∧ Blk w0 sb 65 (sbV noSB)) (n id m : Int) (q : PG) (okp : POk q) (hn1 : -9223372036854775808 ≤ n) (hn2 : n ≤ 9223372036854775807) :
    Calls Try.prog 13 #[.pointer p, .int .i64 n, .int .i64 id, .agg ⟨pgV q⟩, .int .i64 m] w0 fun e w => e = .returned (.int .i64 1) ∧ Below w0.heap.size w0 w := by
  refine enter (args := [.pointer p, .int .i64 n, .int .i64 id, .agg ⟨pgV q⟩, .int .i64 m]) Try.func13 rfl Try.ntmps13 rfl ?_
  have H := Sat.start w0
  refine cw_seq ?_
  -- region 0 store.go:92
  refine cw_region (clf [.X, .U]) [0, 1] rfl (by kernel_rfl) (by decide) ?_
  refine TF.box (v := (.agg ⟨pgV q⟩)) H rfl (Cx.xx rfl) (wantF_none rfl) rfl rfl ?_
  clear H
  intro bk1 w hltbk1 hb2 H
  refine TF.u (v := (.int .i64 _)) rfl rfl (pr_assign rfl) ?_
  refine TF.nil (nx_then ?_)
  refine cw_seq ?_
  refine cw_seq ?_
  -- region 1 store.go:93
  refine cw_region (clf [.U, .X, .U, .U, .U, .U, .X, .U, .U, .U, .U, .X, .U, .U]) [0, 1, 2, 3, 4, 5, 6, 7, 8, 9, 10, 11, 12, 13] rfl (by kernel_rfl) (by decide) ?_
  refine TF.u (v := (.int .i64 _)) rfl rfl (pr_move rfl) ?_
  refine TF.call (args := [(.int .i64 _)]) Try.fn28 rfl rfl (wantF_none rfl) rfl (snode_ok _ _ (by omega) (by omega)) ?_
  rintro e_ w ⟨rfl, hb3⟩
  refine ⟨_, rfl, ?_⟩
  replace H := H.below hb3
  refine TF.u (v := (.bool _)) rfl rfl (pr_not rfl) ?_
  refine TF.u (v := (.bool _)) rfl rfl (pr_move rfl) ?_
  refine TF.split (dj := 19) rfl (fun hq5 => ?_) (fun hq5 => ?_)
  ·
    have hp5 := (nT hq5)
    refine TF.skip rfl (wantF_no rfl rfl rfl (bnF (nT hq5))) ?_
    refine TF.skip rfl (wantF_no rfl rfl rfl (bnF (nT hq5))) ?_
    refine TF.skip rfl (wantF_no rfl rfl rfl (bnF (nT hq5))) ?_
    refine TF.skip rfl (wantF_no rfl rfl rfl (bnF (nT hq5))) ?_
    refine TF.u (v := (.bool _)) rfl rfl (pr_pickT rfl (bnF (nT hq5)) rfl) ?_
    refine TF.u (v := (.bool _)) rfl rfl (pr_move rfl) ?_
    refine TF.skip rfl (wantF_no rfl rfl rfl rfl) ?_
    refine TF.skip rfl (wantF_no rfl rfl rfl rfl) ?_
    refine TF.skip rfl (wantF_no rfl rfl rfl rfl) ?_
    refine TF.u (v := (.bool _)) rfl rfl (pr_pickT rfl rfl rfl) ?_
    refine TF.nil (nx_then ?_)
    refine cw_condT (t := _) rfl rfl rfl ?_
    refine cw_seq ?_
    -- region 2 store.go:94
    refine cw_region (clf [.U]) [0] rfl (by kernel_rfl) (by decide) ?_
    refine TF.u (v := (.int .i64 _)) rfl rfl (pr_assign rfl) ?_
    refine TF.nil (nx_then ?_)
    refine cw_ret (rt_then (fin1 (v := (.int .i64 _)) Try.results13 rfl rfl ?_))
    exact ⟨rfl, H.base⟩
  ·
    have hp5 := (nF hq5)
    refine TF.ug (v := (.pointer p)) rfl rfl (wantF_yes rfl rfl rfl (bnT (nF hq5))) (pr_move rfl) ?_
    refine TF.ug (v := (.int .i64 _)) rfl rfl (wantF_yes rfl rfl rfl (bnT (nF hq5))) (pr_move rfl) ?_
    refine TF.call (args := [(.pointer p), (.int .i64 _)]) Try.fn29 rfl rfl (wantF_yes rfl rfl rfl (bnT (nF hq5))) rfl (sthere_no _ _ (hz.imp (fun h_ => h_) fun ⟨sb_, e_, h_⟩ => ⟨sb_, e_, h_.below H.base⟩) _) ?_
    rintro e_ w ⟨rfl, hb6⟩
    refine ⟨_, rfl, ?_⟩
    replace H := H.below hb6
    refine TF.ug (v := (.bool _)) rfl rfl (wantF_yes rfl rfl rfl (bnT (nF hq5))) (pr_not rfl) ?_
    refine TF.u (v := (.bool _)) rfl rfl (pr_pickF rfl (bnT (nF hq5)) rfl) ?_
    refine TF.u (v := (.bool _)) rfl rfl (pr_move rfl) ?_
    refine TF.skip rfl (wantF_no rfl rfl rfl rfl) ?_
    refine TF.skip rfl (wantF_no rfl rfl rfl rfl) ?_
    refine TF.skip rfl (wantF_no rfl rfl rfl rfl) ?_
    refine TF.u (v := (.bool _)) rfl rfl (pr_pickT rfl rfl rfl) ?_
    refine TF.nil (nx_then ?_)
    refine cw_condT (t := _) rfl rfl rfl ?_
    refine cw_seq ?_
    -- region 2 store.go:94
    refine cw_region (clf [.U]) [0] rfl (by kernel_rfl) (by decide) ?_
    refine TF.u (v := (.int .i64 _)) rfl rfl (pr_assign rfl) ?_
    refine TF.nil (nx_then ?_)
    refine cw_ret (rt_then (fin1 (v := (.int .i64 _)) Try.results13 rfl rfl ?_))
    exact ⟨rfl, H.base⟩

theorem smend_no (p : Option Addr) (w0 : World) (hz : p = none ∨ ∃ sb, p = some ⟨sb, 0, none⟩ ∧ Blk w0 sb 65 (sbV noSB)) (n m : Int) (hn1 : -9223372036854775808 ≤ n) (hn2 : n ≤ 9223372036854775807) :
    Calls Try.prog 16 #[.pointer p, .int .i64 n, .int .i64 m] w0 fun e w => e = .returned (.int .i64 1) ∧ Below w0.heap.size w0 w := by
  refine enter (args := [.pointer p, .int .i64 n, .int .i64 m]) Try.func16 rfl Try.ntmps16 rfl ?_
  have H := Sat.start w0
  refine cw_seq ?_
  -- region 0 store.go:117
  refine cw_region (clf [.U]) [0] rfl (by kernel_rfl) (by decide) ?_
  refine TF.u (v := (.int .i64 _)) rfl rfl (pr_assign rfl) ?_
  refine TF.nil (nx_then ?_)
  refine cw_seq ?_
  refine cw_seq ?_
  -- region 1 store.go:118
  refine cw_region (clf [.U, .X, .U, .U, .U, .X, .U, .U, .U, .U, .U, .U, .U, .U, .U, .U]) [0, 1, 2, 3, 4, 5, 6, 7, 8, 9, 10, 11, 12, 13, 14, 15] rfl (by kernel_rfl) (by decide) ?_
  refine TF.u (v := (.pointer p)) rfl rfl (pr_move rfl) ?_
  refine TF.call (args := [(.pointer p)]) Try.fn17 rfl rfl (wantF_none rfl) rfl (spages_no _ _ (hz.imp (fun h_ => h_) fun ⟨sb_, e_, h_⟩ => ⟨sb_, e_, h_.below H.base⟩) ) ?_
  rintro e_ w ⟨rfl, hb1⟩
  refine ⟨_, rfl, ?_⟩
  replace H := H.below hb1
  refine TF.u (v := (.bool _)) rfl rfl (pr_eql rfl rfl) ?_
  refine TF.u (v := (.bool _)) rfl rfl (pr_move rfl) ?_
  refine TF.split (dj := 11) rfl ?_ (fun hq4 => by
      have hp4 := dF hq4
      exfalso
      omega)
  intro hq4
  have hp4 := dT hq4
  refine TF.skip rfl (wantF_no rfl rfl rfl hq4) ?_
  refine TF.skip rfl (wantF_no rfl rfl rfl hq4) ?_
  refine TF.skip rfl (wantF_no rfl rfl rfl hq4) ?_
  refine TF.u (v := (.bool _)) rfl rfl (pr_pickT rfl hq4 rfl) ?_
  refine TF.u (v := (.bool _)) rfl rfl (pr_move rfl) ?_
  refine TF.skip rfl (wantF_no rfl rfl rfl rfl) ?_
  refine TF.skip rfl (wantF_no rfl rfl rfl rfl) ?_
  refine TF.u (v := (.bool _)) rfl rfl (pr_pickT rfl rfl rfl) ?_
  refine TF.u (v := (.bool _)) rfl rfl (pr_move rfl) ?_
  refine TF.skip rfl (wantF_no rfl rfl rfl rfl) ?_
  refine TF.skip rfl (wantF_no rfl rfl rfl rfl) ?_
  refine TF.u (v := (.bool _)) rfl rfl (pr_pickT rfl rfl rfl) ?_
  refine TF.nil (nx_then ?_)
  refine cw_condT (t := _) rfl rfl rfl ?_
  refine cw_seq ?_
  -- region 2 store.go:119
  refine cw_region (clf [.U]) [0] rfl (by kernel_rfl) (by decide) ?_
  refine TF.u (v := (.int .i64 _)) rfl rfl (pr_assign rfl) ?_
  refine TF.nil (nx_then ?_)
  refine cw_ret (rt_then (fin1 (v := (.int .i64 _)) Try.results16 rfl rfl ?_))
  exact ⟨rfl, H.base⟩
end Go.Proofs.Ytpncaeadbfdflaa
