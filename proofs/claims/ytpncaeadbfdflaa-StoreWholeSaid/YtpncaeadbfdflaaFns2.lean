/- What the functions of this seat compute, each walked once (no condition but those in each statement): page.number, page.Right, quaysideref04.Right, page.tale, page.Encode, page.Torn, quaysideref04.Torn, page.Stamp, quaysideref04.Stamp, page.told, page.Decode, quaysideref04.tale, quaysideref04.Image, quaysideref04.Decode -/
import Derived.Test.YtpncaeadbfdflaaCore7
import Derived.Test.YtpncaeadbfdflaaMath
import Derived.Test.YtpncaeadbfdflaaMath1
import Derived.Test.YtpncaeadbfdflaaCrc
import Derived.Test.YtpncaeadbfdflaaCrc2
import Derived.Test.YtpncaeadbfdflaaCrc3
import Derived.Test.YtpncaeadbfdflaaCore8
import Derived.Test.YtpncaeadbfdflaaCore9
import Derived.Test.YtpncaeadbfdflaaCore10
import Derived.Test.YtpncaeadbfdflaaCore11
import Derived.Test.YtpncaeadbfdflaaPage
import Derived.Test.YtpncaeadbfdflaaPageV
import Derived.Test.YtpncaeadbfdflaaArgs
import Derived.Test.YtpncaeadbfdflaaPage2
import Derived.Test.YtpncaeadbfdflaaArgsP
import Derived.Test.YtpncaeadbfdflaaCore12
import Derived.Test.YtpncaeadbfdflaaPage3
import Derived.Test.YtpncaeadbfdflaaCore13
import Derived.Test.YtpncaeadbfdflaaCore14
import Derived.Test.YtpncaeadbfdflaaStore
import Derived.Test.YtpncaeadbfdflaaStoreV
import Derived.Test.YtpncaeadbfdflaaStoreR
import Derived.Test.YtpncaeadbfdflaaStoreS
import Derived.Test.YtpncaeadbfdflaaStoreL
import Derived.Test.YtpncaeadbfdflaaProg
import Derived.KernelRfl
import Derived.Test.YtpncaeadbfdflaaFns1
set_option linter.unusedSimpArgs false
set_option linter.unusedVariables false
set_option maxRecDepth 10000
namespace Go.Proofs.Ytpncaeadbfdflaa
open Go.Q Go.RowKit Go.Proofs
theorem Try.ty4 : Ty Try.prog 4 .bool (.bool false) 1 1 := ty_mk (by kernel_rfl) (by kernel_rfl)
theorem Try.ty9 : Ty Try.prog 9 .string (.string ⟨⟨[]⟩⟩) 1 16 := ty_mk (by kernel_rfl) (by kernel_rfl)
theorem Try.ty22 : Ty Try.prog 22 (.int .u64) (.int .u64 0) 1 8 := ty_mk (by kernel_rfl) (by kernel_rfl)
theorem Try.ty24 : Ty Try.prog 24 (.struct (match Try.prog.underlying 24 with | some (.struct fs) => fs | _ => #[])) (.agg ⟨[(.bool false), (.string ⟨⟨[]⟩⟩)]⟩) 2 24 := ty_mk (by kernel_rfl) (by kernel_rfl)
theorem Try.ty25 : Ty Try.prog 25 (.array 8 24) (.agg ⟨[(.bool false), (.string ⟨⟨[]⟩⟩), (.bool false), (.string ⟨⟨[]⟩⟩), (.bool false), (.string ⟨⟨[]⟩⟩), (.bool false), (.string ⟨⟨[]⟩⟩), (.bool false), (.string ⟨⟨[]⟩⟩), (.bool false), (.string ⟨⟨[]⟩⟩), (.bool false), (.string ⟨⟨[]⟩⟩), (.bool false), (.string ⟨⟨[]⟩⟩)]⟩) 16 192 := ty_mk (by kernel_rfl) (by kernel_rfl)
theorem Try.ty27 : Ty Try.prog 27 (.struct (match Try.prog.underlying 27 with | some (.struct fs) => fs | _ => #[])) (.agg ⟨[(.int .u64 0), (.bool false), (.string ⟨⟨[]⟩⟩), (.bool false), (.string ⟨⟨[]⟩⟩), (.bool false), (.string ⟨⟨[]⟩⟩), (.bool false), (.string ⟨⟨[]⟩⟩), (.bool false), (.string ⟨⟨[]⟩⟩), (.bool false), (.string ⟨⟨[]⟩⟩), (.bool false), (.string ⟨⟨[]⟩⟩), (.bool false), (.string ⟨⟨[]⟩⟩)]⟩) 17 200 := ty_mk (by kernel_rfl) (by kernel_rfl)
theorem Try.bld24 : Bld Try.prog 24 [(.bool false), (.string ⟨⟨[]⟩⟩)] [(0, 1), (1, 1)] := bld_mk (by kernel_rfl)
theorem Try.bld27 : Bld Try.prog 27 [(.int .u64 0), (.bool false), (.string ⟨⟨[]⟩⟩), (.bool false), (.string ⟨⟨[]⟩⟩), (.bool false), (.string ⟨⟨[]⟩⟩), (.bool false), (.string ⟨⟨[]⟩⟩), (.bool false), (.string ⟨⟨[]⟩⟩), (.bool false), (.string ⟨⟨[]⟩⟩), (.bool false), (.string ⟨⟨[]⟩⟩), (.bool false), (.string ⟨⟨[]⟩⟩)] [(0, 1), (1, 16)] := bld_mk (by kernel_rfl)
theorem Try.fn11 : Fnc Try.prog 11 Try.f11 := ⟨Try.func11, by kernel_rfl, by kernel_rfl⟩
theorem Try.fn25 : Fnc Try.prog 25 Try.f25 := ⟨Try.func25, by kernel_rfl, by kernel_rfl⟩
theorem Try.fn32 : Fnc Try.prog 32 Try.f32 := ⟨Try.func32, by kernel_rfl, by kernel_rfl⟩
theorem Try.fn35 : Fnc Try.prog 35 Try.f35 := ⟨Try.func35, by kernel_rfl, by kernel_rfl⟩
theorem Try.fn36 : Fnc Try.prog 36 Try.f36 := ⟨Try.func36, by kernel_rfl, by kernel_rfl⟩
theorem Try.fn41 : Fnc Try.prog 41 Try.f41 := ⟨Try.func41, by kernel_rfl, by kernel_rfl⟩
theorem Try.fn42 : Fnc Try.prog 42 Try.f42 := ⟨Try.func42, by kernel_rfl, by kernel_rfl⟩
theorem Try.fn43 : Fnc Try.prog 43 Try.f43 := ⟨Try.func43, by kernel_rfl, by kernel_rfl⟩
theorem Try.fn45 : Fnc Try.prog 45 Try.f45 := ⟨Try.func45, by kernel_rfl, by kernel_rfl⟩
theorem Try.fn46 : Fnc Try.prog 46 Try.f46 := ⟨Try.func46, by kernel_rfl, by kernel_rfl⟩
theorem Try.fn47 : Fnc Try.prog 47 Try.f47 := ⟨Try.func47, by kernel_rfl, by kernel_rfl⟩
theorem Try.fn52 : Fnc Try.prog 52 Try.f52 := ⟨Try.func52, by kernel_rfl, by kernel_rfl⟩
theorem Try.fn55 : Fnc Try.prog 55 Try.f55 := ⟨Try.func55, by kernel_rfl, by kernel_rfl⟩
theorem Try.fn56 : Fnc Try.prog 56 Try.f56 := ⟨Try.func56, by kernel_rfl, by kernel_rfl⟩
theorem Try.fn57 : Fnc Try.prog 57 Try.f57 := ⟨Try.func57, by kernel_rfl, by kernel_rfl⟩
theorem Try.fn58 : Fnc Try.prog 58 Try.f58 := ⟨Try.func58, by kernel_rfl, by kernel_rfl⟩
theorem Try.fn60 : Fnc Try.prog 60 Try.f60 := ⟨Try.func60, by kernel_rfl, by kernel_rfl⟩
theorem number_ok_ (id : Int) (w0 : World) (h1 : -9223372036854775808 ≤ id) (h2 : id ≤ 9223372036854775807) :
    Calls Try.prog 41 #[.int .i64 id] w0 fun e w => e = .returned (.bool (numberP id)) ∧ Below w0.heap.size w0 w := by
  refine enter (args := [.int .i64 id]) Try.func41 rfl Try.ntmps41 rfl ?_
  have H := Sat.start w0
  refine cw_seq ?_
  -- region 0 page.go:26
  refine cw_region (clf [.U]) [0] rfl (by kernel_rfl) (by decide) ?_
  refine TF.u (v := (.bool _)) rfl rfl (pr_assign rfl) ?_
  refine TF.nil (nx_then ?_)
  refine cw_seq ?_
  -- region 1 page.go:26
  refine cw_region (clf [.U, .U, .U, .U, .U, .U, .U]) [0, 1, 2, 3, 4, 5, 6] rfl (by kernel_rfl) (by decide) ?_
  refine TF.u (v := (.int .i64 _)) rfl rfl (pr_move rfl) ?_
  refine TF.u (v := (.bool _)) rfl rfl (pr_geq rfl rfl) ?_
  refine TF.u (v := (.bool _)) rfl rfl (pr_move rfl) ?_
  refine TF.split (dj := 5) rfl (fun hq2 => ?_) (fun hq2 => ?_)
  ·
    have hp2 := dT hq2
    refine TF.ug (v := (.int .i64 _)) rfl rfl (wantF_yes rfl rfl rfl hq2) (pr_move rfl) ?_
    refine TF.ug (v := (.bool _)) rfl rfl (wantF_yes rfl rfl rfl hq2) (pr_lss rfl rfl) ?_
    refine TF.u (v := (.bool _)) rfl rfl (pr_pickT rfl hq2 rfl) ?_
    refine TF.u (v := (.bool _)) rfl rfl (pr_assign rfl) ?_
    refine TF.nil (nx_then ?_)
    refine cw_ret (fin1 (v := (.bool _)) Try.results41 rfl rfl ?_)
    exact ⟨congrArg _ (congrArg _ (Bool.eq_iff_iff.2 (by rw [numberP_iff]; first | (simp_all; done) | (simp_all; omega)))), H.base⟩
  ·
    have hp2 := dF hq2
    refine TF.skip rfl (wantF_no rfl rfl rfl hq2) ?_
    refine TF.skip rfl (wantF_no rfl rfl rfl hq2) ?_
    refine TF.u (v := (.bool _)) rfl rfl (pr_pickF rfl hq2 rfl) ?_
    refine TF.u (v := (.bool _)) rfl rfl (pr_assign rfl) ?_
    refine TF.nil (nx_then ?_)
    refine cw_ret (fin1 (v := (.bool _)) Try.results41 rfl rfl ?_)
    exact ⟨congrArg _ (congrArg _ (Bool.eq_iff_iff.2 (by rw [numberP_iff]; first | (simp_all; done) | (simp_all; omega)))), H.base⟩

theorem pright_ok (p : PG) (ok : POk p) (w0 : World) :
    Calls Try.prog 25 #[.agg ⟨pgV p⟩] w0 fun e w => e = .returned (.bool (rightP p)) ∧ Below w0.heap.size w0 w := by
  refine enter (args := [.agg ⟨pgV p⟩]) Try.func25 rfl Try.ntmps25 rfl ?_
  have H := Sat.start w0
  refine cw_seq ?_
  -- region 0 page.go:17
  refine cw_region (clf [.X, .U]) [0, 1] rfl (by kernel_rfl) (by decide) ?_
  refine TF.box (v := (.agg ⟨pgV p⟩)) H rfl (Cx.xx rfl) (wantF_none rfl) rfl rfl ?_
  clear H
  intro bk1 w hltbk1 hb2 H
  refine TF.u (v := (.bool _)) rfl rfl (pr_assign rfl) ?_
  refine TF.nil (nx_then ?_)
  refine cw_seq ?_
  refine cw_seq ?_
  -- region 1 page.go:18
  refine cw_region (clf [.U, .X, .U]) [0, 1, 2] rfl (by kernel_rfl) (by decide) ?_
  refine TF.u (v := (.pointer (some ⟨_, 1, none⟩))) rfl rfl (pr_field (o' := 1) Try.underlying27 rfl (Try.ty25.s) (by decide) rfl rfl) ?_
  refine TF.loadE (cs' := cellsV p.cells) rfl rfl (wantF_none rfl) (Try.ty25.s) rfl rfl (H.blk (k := 0) rfl) (cellsV_len ok.len) (pgV_cells ok.len) ?_
  refine TF.u (v := (.int .i64 _)) rfl rfl (pr_move rfl) ?_
  refine TF.nil (nx_then ?_)
  refine cw_block ?_
  refine cw_loop (fun m_q f_q w => ∃ (g_ : Nat → Value) (i : Nat), m_q = 8 - i ∧ f_q = (upd (upd (upd g_ 1 (.pointer (some ⟨bk1, 0, none⟩))) 6 (.agg ⟨cellsV p.cells⟩)) 7 (.int .i64 (i : Int))) ∧ Sat [] w0 w [cBlk bk1 27 (pgV p)] ∧ (i ≤ 8) ∧ (∀ c ∈ p.cells.take i, cellOk c = true)) (8 - 0) ?_ ?_
  ·
    exact ⟨_, 0, rfl, (cutS (cutS (cutS rfl rfl) rfl) rfl), H, Nat.zero_le _, (fun c hc => by simp at hc)⟩
  ·
    clear H
    rintro m_ f_ w ⟨g_, i, rfl, rfl, H, hi, hall⟩
    refine cw_seq ?_
    -- region 2 page.go:18
    refine cw_region (clf [.U]) [0] rfl (by kernel_rfl) (by decide) ?_
    refine TF.u (v := (.bool _)) rfl rfl (pr_lss rfl rfl) ?_
    refine TF.nil (nx_then ?_)
    refine cw_seq ?_
    refine cw_cond _ rfl rfl (fun hq4 => ?_) (fun hq4 => ?_)
    ·
      have hp4 := dT hq4
      refine cw_skip (nx_then ?_)
      refine cw_seq ?_
      refine cw_block ?_
      refine cw_seq ?_
      -- region 3 page.go:18
      refine cw_region (clf [.U, .X, .X]) [0, 1, 2] rfl (by kernel_rfl) (by decide) ?_
      obtain ⟨o5, ho5⟩ : ∃ o, p.cells[i]? = some o := ⟨_, List.getElem?_eq_getElem (by rw [ok.len]; omega)⟩
      refine TF.u (v := (.agg ⟨cellV o5⟩)) rfl rfl (pr_idxVE (cs' := cellV o5) Try.underlying25 (Try.ty24.s) rfl rfl rfl (by omega) (by omega) (cellsV_get ho5)) ?_
      refine TF.alloc H rfl (Cx.xx rfl) (wantF_none rfl) (Try.ty24) rfl ?_
      clear H
      intro bk6 w hltbk6 hb7 H
      replace H : Sat _ _ _ (cBlk _ _ (cellV noCell) :: _) := H
      replace H : Sat _ _ _ [_, _] := H
      refine TF.storeN (q := 0) (cs' := cellV o5) H rfl rfl rfl (wantF_none rfl) (Try.ty24.s) rfl rfl rfl (cellV_one _) (by have h_ : (cellV noCell).length = 2 := rfl; omega) (store_all rfl) ?_
      clear H
      intro w ho8 H
      replace H : Sat _ _ _ [_, _] := H
      refine TF.nil (nx_then ?_)
      refine cw_seq ?_
      -- region 4 page.go:19
      refine cw_region (clf [.U, .X, .U, .U, .U, .U, .X, .U, .U, .U, .X, .U, .U, .U]) [0, 1, 2, 3, 4, 5, 6, 7, 8, 9, 10, 11, 12, 13] rfl (by kernel_rfl) (by decide) ?_
      refine TF.u (v := (.pointer (some ⟨_, 1, none⟩))) rfl rfl (pr_field (o' := 1) Try.underlying24 rfl (Try.ty9.s) (by decide) rfl rfl) ?_
      refine TF.load (v := (T o5.2)) rfl rfl (wantF_none rfl) Try.underlying9 rfl rfl ((H.blk (k := 0) rfl).at_ rfl) ?_
      refine TF.u (v := (.int .i64 _)) rfl rfl (pr_slen rfl Try.underlying9 rfl) ?_
      refine TF.u (v := (.bool _)) rfl rfl (pr_gtr rfl rfl) ?_
      refine TF.u (v := (.bool _)) rfl rfl (pr_move rfl) ?_
      refine TF.split (dj := 14) rfl (fun hq10 => ?_) (fun hq10 => ?_)
      ·
        have hp10 := dT hq10
        refine TF.skip rfl (wantF_no rfl rfl rfl hq10) ?_
        refine TF.skip rfl (wantF_no rfl rfl rfl hq10) ?_
        refine TF.skip rfl (wantF_no rfl rfl rfl hq10) ?_
        refine TF.skip rfl (wantF_no rfl rfl rfl hq10) ?_
        refine TF.skip rfl (wantF_undef rfl rfl rfl) ?_
        refine TF.skip rfl (wantF_undef rfl rfl rfl) ?_
        refine TF.skip rfl (wantF_undef rfl rfl rfl) ?_
        refine TF.skip rfl (wantF_no rfl rfl rfl hq10) ?_
        refine TF.u (v := (.bool _)) rfl rfl (pr_pickT rfl hq10 rfl) ?_
        refine TF.nil (nx_then ?_)
        refine cw_condT (t := _) rfl rfl rfl ?_
        refine cw_seq ?_
        -- region 5 page.go:20
        refine cw_region (clf [.U]) [0] rfl (by kernel_rfl) (by decide) ?_
        refine TF.u (v := (.bool _)) rfl rfl (pr_assign rfl) ?_
        refine TF.nil (nx_then ?_)
        refine cw_ret (rt_block (rt_then (rt_then (rt_block (rt_then (fin1 (v := (.bool _)) Try.results25 rfl rfl ?_))))))
        rw [rightP_no ho5 (by unfold cellOk; first | (simp_all; done) | (simp_all; omega))]
        exact ⟨rfl, H.base⟩
      ·
        have hp10 := dF hq10
        refine TF.ug (v := (.pointer (some ⟨_, 0, none⟩))) rfl rfl (wantF_yes rfl rfl rfl hq10) (pr_field (o' := 0) Try.underlying24 rfl (Try.ty4.s) (by decide) rfl rfl) ?_
        refine TF.load (v := (.bool o5.1)) rfl rfl (wantF_yes rfl rfl rfl hq10) Try.underlying4 rfl rfl ((H.blk (k := 0) rfl).at_ rfl) ?_
        refine TF.ug (v := (.bool _)) rfl rfl (wantF_yes rfl rfl rfl hq10) (pr_not rfl) ?_
        refine TF.ug (v := (.bool _)) rfl rfl (wantF_yes rfl rfl rfl hq10) (pr_move rfl) ?_
        refine TF.split (dj := 18) rfl (fun hq13 => ?_) (fun hq13 => ?_)
        ·
          have hp13 := (nT hq13)
          refine TF.ug (v := (.pointer (some ⟨_, 1, none⟩))) rfl rfl (wantF_yes rfl rfl rfl (bnF (nT hq13))) (pr_field (o' := 1) Try.underlying24 rfl (Try.ty9.s) (by decide) rfl rfl) ?_
          refine TF.load (v := (T o5.2)) rfl rfl (wantF_yes rfl rfl rfl (bnF (nT hq13))) Try.underlying9 rfl rfl ((H.blk (k := 0) rfl).at_ rfl) ?_
          refine TF.ug (v := (.bool _)) rfl rfl (wantF_yes rfl rfl rfl (bnF (nT hq13))) (pr_sneq rfl rfl) ?_
          refine TF.ug (v := (.bool _)) rfl rfl (wantF_yes rfl rfl rfl hq10) (pr_pickT rfl (bnF (nT hq13)) rfl) ?_
          refine TF.u (v := (.bool _)) rfl rfl (pr_pickF rfl hq10 rfl) ?_
          refine TF.nil (nx_then ?_)
          refine cw_cond _ rfl rfl (fun hq15 => ?_) (fun hq15 => ?_)
          ·
            have hp15 := eF (nT hq15)
            refine cw_seq ?_
            -- region 5 page.go:20
            refine cw_region (clf [.U]) [0] rfl (by kernel_rfl) (by decide) ?_
            refine TF.u (v := (.bool _)) rfl rfl (pr_assign rfl) ?_
            refine TF.nil (nx_then ?_)
            refine cw_ret (rt_block (rt_then (rt_then (rt_block (rt_then (fin1 (v := (.bool _)) Try.results25 rfl rfl ?_))))))
            rw [rightP_no ho5 (by unfold cellOk; first | (simp_all; done) | (simp_all; omega))]
            exact ⟨rfl, H.base⟩
          ·
            have hp15 := eT (nF hq15)
            refine cw_skip (nx_block (nx_then ?_))
            -- region 6 page.go:18
            refine cw_region (clf [.U, .U]) [0, 1] rfl (by kernel_rfl) (by decide) ?_
            refine TF.u (v := (.int .i64 _)) rfl rfl (pr_add rfl rfl (IntWalk.i64_in _ (by omega))) ?_
            refine TF.u (v := (.int .i64 _)) rfl rfl (pr_move rfl) ?_
            refine TF.nil (nx_loop (m' := 8 - (i + 1)) (by omega) ?_)
            exact ⟨_, i + 1, rfl, (cutS (cutS (cutS rfl rfl) rfl) rfl), (H.del 0), by omega, all_snoc ho5 hall (by unfold cellOk; first | (simp_all; done) | (simp_all; omega))⟩
        ·
          have hp13 := (nF hq13)
          refine TF.skip rfl (wantF_no rfl rfl rfl (bnT (nF hq13))) ?_
          refine TF.skip rfl (wantF_no rfl rfl rfl (bnT (nF hq13))) ?_
          refine TF.skip rfl (wantF_no rfl rfl rfl (bnT (nF hq13))) ?_
          refine TF.ug (v := (.bool _)) rfl rfl (wantF_yes rfl rfl rfl hq10) (pr_pickF rfl (bnT (nF hq13)) rfl) ?_
          refine TF.u (v := (.bool _)) rfl rfl (pr_pickF rfl hq10 rfl) ?_
          refine TF.nil (nx_then ?_)
          refine cw_condF (t := _) rfl rfl rfl ?_
          refine cw_skip (nx_block (nx_then ?_))
          -- region 6 page.go:18
          refine cw_region (clf [.U, .U]) [0, 1] rfl (by kernel_rfl) (by decide) ?_
          refine TF.u (v := (.int .i64 _)) rfl rfl (pr_add rfl rfl (IntWalk.i64_in _ (by omega))) ?_
          refine TF.u (v := (.int .i64 _)) rfl rfl (pr_move rfl) ?_
          refine TF.nil (nx_loop (m' := 8 - (i + 1)) (by omega) ?_)
          exact ⟨_, i + 1, rfl, (cutS (cutS (cutS rfl rfl) rfl) rfl), (H.del 0), by omega, all_snoc ho5 hall (by unfold cellOk; first | (simp_all; done) | (simp_all; omega))⟩
    ·
      have hp4 := dF hq4
      refine cw_exit (ex_then (ex_then (ex_here (nx_then ?_))))
      refine cw_seq ?_
      -- region 7 page.go:23
      refine cw_region (clf [.U, .X, .U, .U]) [0, 1, 2, 3] rfl (by kernel_rfl) (by decide) ?_
      refine TF.u (v := (.pointer (some ⟨_, 0, none⟩))) rfl rfl (pr_field (o' := 0) Try.underlying27 rfl (Try.ty22.s) (by decide) rfl rfl) ?_
      refine TF.load (v := (.int .u64 (p.lsn : Int))) rfl rfl (wantF_none rfl) Try.underlying22 rfl rfl ((H.blk (k := 0) rfl).at_ rfl) ?_
      refine TF.u (v := (.bool _)) rfl rfl (pr_leq rfl rfl) ?_
      refine TF.u (v := (.bool _)) rfl rfl (pr_assign rfl) ?_
      refine TF.nil (nx_then ?_)
      refine cw_ret (fin1 (v := (.bool _)) Try.results25 rfl rfl ?_)
      rw [← rightP_end (take_all hall (by have := ok.len; omega)) rfl]
      exact ⟨rfl, H.base⟩

theorem rright_ok (p : PG) (ok : POk p) (w0 : World) :
    Calls Try.prog 11 #[.agg ⟨pgV p⟩] w0 fun e w => e = .returned (.bool (rightP p)) ∧ Below w0.heap.size w0 w := by
  refine enter (args := [.agg ⟨pgV p⟩]) Try.func11 rfl Try.ntmps11 rfl ?_
  have H := Sat.start w0
  refine cw_seq ?_
  -- region 0 ref.go:13
  refine cw_region (clf [.X, .U]) [0, 1] rfl (by kernel_rfl) (by decide) ?_
  refine TF.box (v := (.agg ⟨pgV p⟩)) H rfl (Cx.xx rfl) (wantF_none rfl) rfl rfl ?_
  clear H
  intro bk1 w hltbk1 hb2 H
  refine TF.u (v := (.bool _)) rfl rfl (pr_assign rfl) ?_
  refine TF.nil (nx_then ?_)
  refine cw_seq ?_
  refine cw_seq ?_
  -- region 1 ref.go:14
  refine cw_region (clf [.U]) [0] rfl (by kernel_rfl) (by decide) ?_
  refine TF.u (v := (.int .i64 _)) rfl rfl (pr_assign rfl) ?_
  refine TF.nil (nx_then ?_)
  refine cw_block ?_
  refine cw_loop (fun m_q f_q w => ∃ (g_ : Nat → Value) (i : Nat), m_q = 8 - i ∧ f_q = (upd (upd g_ 1 (.pointer (some ⟨bk1, 0, none⟩))) 3 (.int .i64 (i : Int))) ∧ Sat [] w0 w [cBlk bk1 27 (pgV p)] ∧ (i ≤ 8) ∧ (∀ c ∈ p.cells.take i, cellOk c = true)) (8 - 0) ?_ ?_
  ·
    exact ⟨_, 0, rfl, (cutS (cutS rfl rfl) rfl), H, Nat.zero_le _, (fun c hc => by simp at hc)⟩
  ·
    clear H
    rintro m_ f_ w ⟨g_, i, rfl, rfl, H, hi, hall⟩
    refine cw_seq ?_
    refine cw_seq ?_
    -- region 2 ref.go:14
    refine cw_region (clf [.U, .U]) [0, 1] rfl (by kernel_rfl) (by decide) ?_
    refine TF.u (v := (.int .i64 _)) rfl rfl (pr_move rfl) ?_
    refine TF.u (v := (.bool _)) rfl rfl (pr_lss rfl rfl) ?_
    refine TF.nil (nx_then ?_)
    refine cw_cond _ rfl rfl (fun hq4 => ?_) (fun hq4 => ?_)
    ·
      have hp4 := dT hq4
      refine cw_skip (nx_then ?_)
      refine cw_seq ?_
      refine cw_block ?_
      refine cw_seq ?_
      -- region 4 ref.go:15
      refine cw_region (clf [.U, .U, .U, .X, .X, .X]) [0, 1, 2, 3, 4, 5] rfl (by kernel_rfl) (by decide) ?_
      refine TF.u (v := (.int .i64 _)) rfl rfl (pr_move rfl) ?_
      refine TF.u (v := (.pointer (some ⟨_, 1, none⟩))) rfl rfl (pr_field (o' := 1) Try.underlying27 rfl (Try.ty25.s) (by decide) rfl rfl) ?_
      obtain ⟨o5, ho5⟩ : ∃ o, p.cells[i]? = some o := ⟨_, List.getElem?_eq_getElem (by rw [ok.len]; omega)⟩
      refine TF.u (v := (.pointer (some ⟨_, _, none⟩))) rfl rfl (pr_idxA Try.underlying25 (Try.ty24.s) rfl rfl (by omega) (by omega)) ?_
      refine TF.loadE (cs' := cellV o5) rfl rfl (wantF_none rfl) (Try.ty24.s) rfl rfl (H.blk (k := 0) rfl) rfl (pg_drop ho5) ?_
      refine TF.alloc H rfl (Cx.xx rfl) (wantF_none rfl) (Try.ty24) rfl ?_
      clear H
      intro bk6 w hltbk6 hb7 H
      replace H : Sat _ _ _ (cBlk _ _ (cellV noCell) :: _) := H
      replace H : Sat _ _ _ [_, _] := H
      refine TF.storeN (q := 0) (cs' := cellV o5) H rfl rfl rfl (wantF_none rfl) (Try.ty24.s) rfl rfl rfl (cellV_one _) (by have h_ : (cellV noCell).length = 2 := rfl; omega) (store_all rfl) ?_
      clear H
      intro w ho8 H
      replace H : Sat _ _ _ [_, _] := H
      refine TF.nil (nx_then ?_)
      refine cw_seq ?_
      -- region 5 ref.go:16
      refine cw_region (clf [.U, .X, .U, .U, .U, .U, .X, .U, .U, .U, .X, .U, .U, .U]) [0, 1, 2, 3, 4, 5, 6, 7, 8, 9, 10, 11, 12, 13] rfl (by kernel_rfl) (by decide) ?_
      refine TF.u (v := (.pointer (some ⟨_, 1, none⟩))) rfl rfl (pr_field (o' := 1) Try.underlying24 rfl (Try.ty9.s) (by decide) rfl rfl) ?_
      refine TF.load (v := (T o5.2)) rfl rfl (wantF_none rfl) Try.underlying9 rfl rfl ((H.blk (k := 0) rfl).at_ rfl) ?_
      refine TF.u (v := (.int .i64 _)) rfl rfl (pr_slen rfl Try.underlying9 rfl) ?_
      refine TF.u (v := (.bool _)) rfl rfl (pr_gtr rfl rfl) ?_
      refine TF.u (v := (.bool _)) rfl rfl (pr_move rfl) ?_
      refine TF.split (dj := 17) rfl (fun hq10 => ?_) (fun hq10 => ?_)
      ·
        have hp10 := dT hq10
        refine TF.skip rfl (wantF_no rfl rfl rfl hq10) ?_
        refine TF.skip rfl (wantF_no rfl rfl rfl hq10) ?_
        refine TF.skip rfl (wantF_no rfl rfl rfl hq10) ?_
        refine TF.skip rfl (wantF_no rfl rfl rfl hq10) ?_
        refine TF.skip rfl (wantF_undef rfl rfl rfl) ?_
        refine TF.skip rfl (wantF_undef rfl rfl rfl) ?_
        refine TF.skip rfl (wantF_undef rfl rfl rfl) ?_
        refine TF.skip rfl (wantF_no rfl rfl rfl hq10) ?_
        refine TF.u (v := (.bool _)) rfl rfl (pr_pickT rfl hq10 rfl) ?_
        refine TF.nil (nx_then ?_)
        refine cw_condT (t := _) rfl rfl rfl ?_
        refine cw_seq ?_
        -- region 6 ref.go:17
        refine cw_region (clf [.U]) [0] rfl (by kernel_rfl) (by decide) ?_
        refine TF.u (v := (.bool _)) rfl rfl (pr_assign rfl) ?_
        refine TF.nil (nx_then ?_)
        refine cw_ret (rt_block (rt_then (rt_then (rt_block (rt_then (fin1 (v := (.bool _)) Try.results11 rfl rfl ?_))))))
        rw [rightP_no ho5 (by unfold cellOk; first | (simp_all; done) | (simp_all; omega))]
        exact ⟨rfl, H.base⟩
      ·
        have hp10 := dF hq10
        refine TF.ug (v := (.pointer (some ⟨_, 0, none⟩))) rfl rfl (wantF_yes rfl rfl rfl hq10) (pr_field (o' := 0) Try.underlying24 rfl (Try.ty4.s) (by decide) rfl rfl) ?_
        refine TF.load (v := (.bool o5.1)) rfl rfl (wantF_yes rfl rfl rfl hq10) Try.underlying4 rfl rfl ((H.blk (k := 0) rfl).at_ rfl) ?_
        refine TF.ug (v := (.bool _)) rfl rfl (wantF_yes rfl rfl rfl hq10) (pr_not rfl) ?_
        refine TF.ug (v := (.bool _)) rfl rfl (wantF_yes rfl rfl rfl hq10) (pr_move rfl) ?_
        refine TF.split (dj := 21) rfl (fun hq13 => ?_) (fun hq13 => ?_)
        ·
          have hp13 := (nT hq13)
          refine TF.ug (v := (.pointer (some ⟨_, 1, none⟩))) rfl rfl (wantF_yes rfl rfl rfl (bnF (nT hq13))) (pr_field (o' := 1) Try.underlying24 rfl (Try.ty9.s) (by decide) rfl rfl) ?_
          refine TF.load (v := (T o5.2)) rfl rfl (wantF_yes rfl rfl rfl (bnF (nT hq13))) Try.underlying9 rfl rfl ((H.blk (k := 0) rfl).at_ rfl) ?_
          refine TF.ug (v := (.bool _)) rfl rfl (wantF_yes rfl rfl rfl (bnF (nT hq13))) (pr_sneq rfl rfl) ?_
          refine TF.ug (v := (.bool _)) rfl rfl (wantF_yes rfl rfl rfl hq10) (pr_pickT rfl (bnF (nT hq13)) rfl) ?_
          refine TF.u (v := (.bool _)) rfl rfl (pr_pickF rfl hq10 rfl) ?_
          refine TF.nil (nx_then ?_)
          refine cw_cond _ rfl rfl (fun hq15 => ?_) (fun hq15 => ?_)
          ·
            have hp15 := eF (nT hq15)
            refine cw_seq ?_
            -- region 6 ref.go:17
            refine cw_region (clf [.U]) [0] rfl (by kernel_rfl) (by decide) ?_
            refine TF.u (v := (.bool _)) rfl rfl (pr_assign rfl) ?_
            refine TF.nil (nx_then ?_)
            refine cw_ret (rt_block (rt_then (rt_then (rt_block (rt_then (fin1 (v := (.bool _)) Try.results11 rfl rfl ?_))))))
            rw [rightP_no ho5 (by unfold cellOk; first | (simp_all; done) | (simp_all; omega))]
            exact ⟨rfl, H.base⟩
          ·
            have hp15 := eT (nF hq15)
            refine cw_skip (nx_block (nx_then ?_))
            -- region 3 ref.go:14
            refine cw_region (clf [.U, .U, .U]) [0, 1, 2] rfl (by kernel_rfl) (by decide) ?_
            refine TF.u (v := (.int .i64 _)) rfl rfl (pr_move rfl) ?_
            refine TF.u (v := (.int .i64 _)) rfl rfl (pr_add rfl rfl (IntWalk.i64_in _ (by omega))) ?_
            refine TF.u (v := (.int .i64 _)) rfl rfl (pr_assign rfl) ?_
            refine TF.nil (nx_loop (m' := 8 - (i + 1)) (by omega) ?_)
            exact ⟨_, i + 1, rfl, (cutS (cutS rfl rfl) rfl), (H.del 0), by omega, all_snoc ho5 hall (by unfold cellOk; first | (simp_all; done) | (simp_all; omega))⟩
        ·
          have hp13 := (nF hq13)
          refine TF.skip rfl (wantF_no rfl rfl rfl (bnT (nF hq13))) ?_
          refine TF.skip rfl (wantF_no rfl rfl rfl (bnT (nF hq13))) ?_
          refine TF.skip rfl (wantF_no rfl rfl rfl (bnT (nF hq13))) ?_
          refine TF.ug (v := (.bool _)) rfl rfl (wantF_yes rfl rfl rfl hq10) (pr_pickF rfl (bnT (nF hq13)) rfl) ?_
          refine TF.u (v := (.bool _)) rfl rfl (pr_pickF rfl hq10 rfl) ?_
          refine TF.nil (nx_then ?_)
          refine cw_condF (t := _) rfl rfl rfl ?_
          refine cw_skip (nx_block (nx_then ?_))
          -- region 3 ref.go:14
          refine cw_region (clf [.U, .U, .U]) [0, 1, 2] rfl (by kernel_rfl) (by decide) ?_
          refine TF.u (v := (.int .i64 _)) rfl rfl (pr_move rfl) ?_
          refine TF.u (v := (.int .i64 _)) rfl rfl (pr_add rfl rfl (IntWalk.i64_in _ (by omega))) ?_
          refine TF.u (v := (.int .i64 _)) rfl rfl (pr_assign rfl) ?_
          refine TF.nil (nx_loop (m' := 8 - (i + 1)) (by omega) ?_)
          exact ⟨_, i + 1, rfl, (cutS (cutS rfl rfl) rfl), (H.del 0), by omega, all_snoc ho5 hall (by unfold cellOk; first | (simp_all; done) | (simp_all; omega))⟩
    ·
      have hp4 := dF hq4
      refine cw_exit (ex_then (ex_then (ex_here (nx_then ?_))))
      refine cw_seq ?_
      -- region 7 ref.go:20
      refine cw_region (clf [.U, .X, .U, .U]) [0, 1, 2, 3] rfl (by kernel_rfl) (by decide) ?_
      refine TF.u (v := (.pointer (some ⟨_, 0, none⟩))) rfl rfl (pr_field (o' := 0) Try.underlying27 rfl (Try.ty22.s) (by decide) rfl rfl) ?_
      refine TF.load (v := (.int .u64 (p.lsn : Int))) rfl rfl (wantF_none rfl) Try.underlying22 rfl rfl ((H.blk (k := 0) rfl).at_ rfl) ?_
      refine TF.u (v := (.bool _)) rfl rfl (pr_leq rfl rfl) ?_
      refine TF.u (v := (.bool _)) rfl rfl (pr_assign rfl) ?_
      refine TF.nil (nx_then ?_)
      refine cw_ret (fin1 (v := (.bool _)) Try.results11 rfl rfl ?_)
      rw [← rightP_end (take_all hall (by have := ok.len; omega)) rfl]
      exact ⟨rfl, H.base⟩

theorem tale_ok (id : Nat) (p : PG) (ok : POk p) (w0 : World) (hid : id < 32) (hr : rightP p = true) :
    Calls Try.prog 55 #[.int .i64 (id : Int), .agg ⟨pgV p⟩] w0 fun e w => ∃ A1 n1 c1, e = .returned (.slice A1 n1 c1) ∧ NewB w0 w 5 A1 n1 c1 (taleS id p) := by
  refine enter (args := [.int .i64 (id : Int), .agg ⟨pgV p⟩]) Try.func55 rfl Try.ntmps55 rfl ?_
  have H := Sat.start w0
  refine cw_seq ?_
  -- region 0 page.go:29
  refine cw_region (clf [.X, .U]) [0, 1] rfl (by kernel_rfl) (by decide) ?_
  refine TF.box (v := (.agg ⟨pgV p⟩)) H rfl (Cx.xx rfl) (wantF_none rfl) rfl rfl ?_
  clear H
  intro bk1 w hltbk1 hb2 H
  refine TF.u (v := (.slice _ _ _)) rfl rfl (pr_assign rfl) ?_
  refine TF.nil (nx_then ?_)
  refine cw_seq ?_
  -- region 1 page.go:30
  refine cw_region (clf [.X, .U]) [0, 1] rfl (by kernel_rfl) (by decide) ?_
  refine TF.make (nl := 236) (nc := 236) (z1 := undef) H rfl (Cx.xx rfl) (wantF_none rfl) Try.underlying34 (Try.ty5) rfl rfl (by omega) (by omega) (by unfold maxLen; omega) ?_
  clear H
  intro bk3 w hltbk3 hb4 H
  rw [made_u8] at H
  replace H := H.toOwn (q := 0) (sz := 1) (nl := 236) (nc := 236) rfl (by simp [u8s_len]) (by omega) (by unfold maxLen; omega)
  replace H : Sat _ _ _ [_, _] := H
  rw [u8s_take, Nat.mul_one, List.take_of_length_le (by simp)] at H
  refine TF.u (v := (.slice _ _ _)) rfl rfl (pr_assign rfl) ?_
  refine TF.nil (nx_then ?_)
  refine cw_seq ?_
  -- region 2 page.go:31
  refine cw_region (clf [.U, .U, .U, .U, .U, .U, .U, .U, .X, .U, .X]) [0, 1, 2, 3, 4, 5, 6, 7, 8, 9, 10] rfl (by kernel_rfl) (by decide) ?_
  refine TF.u (v := (.slice _ _ _)) rfl rfl (pr_move rfl) ?_
  refine TF.u (v := (.slice _ _ _)) rfl rfl (pr_move rfl) ?_
  refine TF.u (v := (.int .i64 _)) rfl rfl (pr_move rfl) ?_
  refine TF.u (v := (.int .i64 _)) rfl rfl (pr_shr rfl rfl (by omega) (shr8i id)) ?_
  refine TF.u (v := (.int .u8 _)) rfl rfl (pr_conv Try.underlying3 Try.underlying5 rfl (u8conv (id / 256))) ?_
  refine TF.u (v := (.int .i64 _)) rfl rfl (pr_move rfl) ?_
  refine TF.u (v := (.int .u8 _)) rfl rfl (pr_conv Try.underlying3 Try.underlying5 rfl (u8conv id)) ?_
  refine TF.u (v := (.pointer (some ⟨bk3, 0, none⟩))) rfl rfl (pr_idxO (b := bk3) (o' := 0) Try.underlying34 (Try.ty5.s) rfl rfl (by omega) (by omega) rfl) ?_
  refine TF.storeO (v := (u8 _)) (q := 0) H rfl rfl rfl (wantF_none rfl) (Try.ty5.s) rfl rfl rfl (by omega) ?_
  clear H
  intro w ho7 H
  replace H : Sat _ _ _ [_, _] := H
  rw [u8s_set] at H
  refine TF.u (v := (.pointer (some ⟨bk3, 1, none⟩))) rfl rfl (pr_idxO (b := bk3) (o' := 1) Try.underlying34 (Try.ty5.s) rfl rfl (by omega) (by omega) rfl) ?_
  refine TF.storeO (v := (u8 _)) (q := 0) H rfl rfl rfl (wantF_none rfl) (Try.ty5.s) rfl rfl rfl (by omega) ?_
  clear H
  intro w ho10 H
  replace H : Sat _ _ _ [_, _] := H
  rw [u8s_set] at H
  rw [tw_start] at H
  refine TF.nil (nx_then ?_)
  refine cw_seq ?_
  -- region 3 page.go:32
  refine cw_region (clf [.U]) [0] rfl (by kernel_rfl) (by decide) ?_
  refine TF.u (v := (.int .i64 _)) rfl rfl (pr_assign rfl) ?_
  refine TF.nil (nx_then ?_)
  refine cw_seq ?_
  refine cw_seq ?_
  -- region 4 page.go:33
  refine cw_region (clf [.U, .X, .U]) [0, 1, 2] rfl (by kernel_rfl) (by decide) ?_
  refine TF.u (v := (.pointer (some ⟨_, 1, none⟩))) rfl rfl (pr_field (o' := 1) Try.underlying27 rfl (Try.ty25.s) (by decide) rfl rfl) ?_
  refine TF.loadE (cs' := cellsV p.cells) rfl rfl (wantF_none rfl) (Try.ty25.s) rfl rfl (H.blk (k := 1) rfl) (cellsV_len ok.len) (pgV_cells ok.len) ?_
  refine TF.u (v := (.int .i64 _)) rfl rfl (pr_move rfl) ?_
  refine TF.nil (nx_then ?_)
  refine cw_block ?_
  refine cw_loop (fun m_q f_q w => ∃ (g_ : Nat → Value) (i : Nat), m_q = 8 - i ∧ f_q = (upd (upd (upd (upd (upd g_ 3 (.pointer (some ⟨bk1, 0, none⟩))) 5 (.slice (some ⟨bk3, 0, none⟩) 236 236)) 6 (.int .i64 ((10 + (valsB (p.cells.take i)).length : Nat) : Int))) 20 (.agg ⟨cellsV p.cells⟩)) 21 (.int .i64 (i : Int))) ∧ Sat [] w0 w [cOwnB 5 (some ⟨bk3, 0, none⟩) 236 236 (tw id (lensB (p.cells.take i)) (8 - i) (valsB (p.cells.take i)) (226 - (valsB (p.cells.take i)).length)), cBlk bk1 27 (pgV p)] ∧ (i ≤ 8)) (8 - 0) ?_ ?_
  ·
    exact ⟨_, 0, rfl, (cutS (cutS (cutS (cutS (cutS rfl rfl) rfl) rfl) rfl) rfl), H, Nat.zero_le _⟩
  ·
    clear H
    rintro m_ f_ w ⟨g_, i, rfl, rfl, H, hi⟩
    have hvl := valsB_take_len hr i
    refine cw_seq ?_
    -- region 5 page.go:33
    refine cw_region (clf [.U]) [0] rfl (by kernel_rfl) (by decide) ?_
    refine TF.u (v := (.bool _)) rfl rfl (pr_lss rfl rfl) ?_
    refine TF.nil (nx_then ?_)
    refine cw_seq ?_
    refine cw_cond _ rfl rfl (fun hq12 => ?_) (fun hq12 => ?_)
    ·
      have hp12 := dT hq12
      refine cw_skip (nx_then ?_)
      refine cw_seq ?_
      refine cw_block ?_
      refine cw_seq ?_
      -- region 6 page.go:33
      refine cw_region (clf [.U, .U, .X, .U, .X]) [0, 1, 2, 3, 4] rfl (by kernel_rfl) (by decide) ?_
      refine TF.u (v := (.int .i64 _)) rfl rfl (pr_move rfl) ?_
      obtain ⟨o13, ho13⟩ : ∃ o, p.cells[i]? = some o := ⟨_, List.getElem?_eq_getElem (by rw [ok.len]; omega)⟩
      obtain ⟨hk1, hk2⟩ := (rightP_spec hr).1 o13 (List.mem_of_getElem? ho13)
      refine TF.u (v := (.agg ⟨cellV o13⟩)) rfl rfl (pr_idxVE (cs' := cellV o13) Try.underlying25 (Try.ty24.s) rfl rfl rfl (by omega) (by omega) (cellsV_get ho13)) ?_
      refine TF.alloc H rfl (Cx.xx rfl) (wantF_none rfl) (Try.ty24) rfl ?_
      clear H
      intro bk14 w hltbk14 hb15 H
      replace H : Sat _ _ _ (cBlk _ _ (cellV noCell) :: _) := H
      replace H : Sat _ _ _ [_, _, _] := H
      refine TF.u (v := (.int .i64 _)) rfl rfl (pr_assign rfl) ?_
      refine TF.storeN (q := 0) (cs' := cellV o13) H rfl rfl rfl (wantF_none rfl) (Try.ty24.s) rfl rfl rfl (cellV_one _) (by have h_ : (cellV noCell).length = 2 := rfl; omega) (store_all rfl) ?_
      clear H
      intro w ho16 H
      replace H : Sat _ _ _ [_, _, _] := H
      refine TF.nil (nx_then ?_)
      refine cw_seq ?_
      -- region 7 page.go:34
      refine cw_region (clf [.U, .U, .U, .U, .X]) [0, 1, 2, 3, 4] rfl (by kernel_rfl) (by decide) ?_
      refine TF.u (v := (.slice _ _ _)) rfl rfl (pr_move rfl) ?_
      refine TF.u (v := (.int .i64 _)) rfl rfl (pr_move rfl) ?_
      refine TF.u (v := (.int .i64 _)) rfl rfl (pr_add rfl rfl (show _ = ((2 + i : Nat) : Int) from (IntWalk.i64_in _ (by omega)).trans (by omega))) ?_
      refine TF.u (v := (.pointer (some ⟨bk3, (2 + i), none⟩))) rfl rfl (pr_idxO (b := bk3) (o' := (2 + i)) Try.underlying34 (Try.ty5.s) rfl rfl (by omega) (by omega) (Nat.mul_one _)) ?_
      refine TF.storeO (v := (u8 255)) (q := 1) H rfl rfl rfl (wantF_none rfl) (Try.ty5.s) rfl rfl rfl (by omega) ?_
      clear H
      intro w ho19 H
      replace H : Sat _ _ _ [_, _, _] := H
      rw [u8s_set] at H
      rw [show 8 - i = (8 - (i + 1)) + 1 by omega, tw_set _ _ _ _ _ _ (by rw [lensB_len, List.length_take]; have := ok.len; omega)] at H
      refine TF.nil (nx_then ?_)
      refine cw_seq ?_
      -- region 8 page.go:35
      refine cw_region (clf [.U, .X]) [0, 1] rfl (by kernel_rfl) (by decide) ?_
      refine TF.u (v := (.pointer (some ⟨_, 0, none⟩))) rfl rfl (pr_field (o' := 0) Try.underlying24 rfl (Try.ty4.s) (by decide) rfl rfl) ?_
      refine TF.load (v := (.bool o13.1)) rfl rfl (wantF_none rfl) Try.underlying4 rfl rfl ((H.blk (k := 0) rfl).at_ rfl) ?_
      refine TF.nil (nx_then ?_)
      refine cw_cond _ rfl rfl (fun hq22 => ?_) (fun hq22 => ?_)
      ·
        have hp22 := hq22
        refine cw_seq ?_
        -- region 9 page.go:36
        refine cw_region (clf [.U, .U, .U, .U, .X, .U, .U, .U, .X]) [0, 1, 2, 3, 4, 5, 6, 7, 8] rfl (by kernel_rfl) (by decide) ?_
        have hu : o13.1 = true := by assumption
        refine TF.u (v := (.slice _ _ _)) rfl rfl (pr_move rfl) ?_
        refine TF.u (v := (.int .i64 _)) rfl rfl (pr_move rfl) ?_
        refine TF.u (v := (.int .i64 _)) rfl rfl (pr_add rfl rfl (show _ = ((2 + i : Nat) : Int) from (IntWalk.i64_in _ (by omega)).trans (by omega))) ?_
        refine TF.u (v := (.pointer (some ⟨_, 1, none⟩))) rfl rfl (pr_field (o' := 1) Try.underlying24 rfl (Try.ty9.s) (by decide) rfl rfl) ?_
        refine TF.load (v := (T o13.2)) rfl rfl (wantF_none rfl) Try.underlying9 rfl rfl ((H.blk (k := 0) rfl).at_ rfl) ?_
        refine TF.u (v := (.int .i64 _)) rfl rfl (pr_slen rfl Try.underlying9 rfl) ?_
        refine TF.u (v := (.int .u8 _)) rfl rfl (pr_conv Try.underlying3 Try.underlying5 rfl (u8conv o13.2.length)) ?_
        refine TF.u (v := (.pointer (some ⟨bk3, (2 + i), none⟩))) rfl rfl (pr_idxO (b := bk3) (o' := (2 + i)) Try.underlying34 (Try.ty5.s) rfl rfl (by omega) (by omega) (Nat.mul_one _)) ?_
        refine TF.storeO (v := (u8 _)) (q := 1) H rfl rfl rfl (wantF_none rfl) (Try.ty5.s) rfl rfl rfl (by omega) ?_
        clear H
        intro w ho25 H
        replace H : Sat _ _ _ [_, _, _] := H
        rw [u8s_set] at H
        rw [tw_set2 _ _ _ _ _ _ _ (by rw [lensB_len, List.length_take]; have := ok.len; omega)] at H
        refine TF.nil (nx_then ?_)
        -- region 10 page.go:37
        refine cw_drawS H Try.wide_ (clf [.U, .U, .U, .U, .U, .R, .X, .U, .U]) [0, 1, 2, 3, 4, 5, 6, 7, 8] (by kernel_rfl) (by kernel_rfl) ?_
        clear H
        intro w hbr H hB
        refine TF.u (v := (.int .i64 _)) rfl rfl (pr_move rfl) ?_
        refine TF.u (v := (.slice _ _ _)) rfl rfl (pr_move rfl) ?_
        refine TF.u (v := (.int .i64 _)) rfl rfl (pr_move rfl) ?_
        refine TF.u (v := (.slice _ _ _)) rfl rfl (pr_cut (l := (10 + (valsB (p.cells.take i)).length)) (h := 236) (mm := 236) Try.underlying34 (Try.ty5.s) rfl (.inr ⟨_, _, rfl, rfl⟩) (.inl ⟨rfl, rfl, rfl⟩) (.inl ⟨rfl, rfl⟩) (by omega) (by omega) (by omega) (n' := 236 - (10 + (valsB (p.cells.take i)).length)) (c' := 236 - (10 + (valsB (p.cells.take i)).length)) (by omega) (by omega)) ?_
        rw [cutA_at (by omega), Nat.mul_one]
        refine TF.u (v := (.pointer (some ⟨_, 1, none⟩))) rfl rfl (pr_field (o' := 1) Try.underlying24 rfl (Try.ty9.s) (by decide) rfl rfl) ?_
        refine TF.loadr (v := (T o13.2)) rfl rfl (wantF_none rfl) Try.underlying9 rfl rfl ((H.blk (k := 0) rfl).atB rfl) ?_
        refine TF.copyOT (q := 1) (m' := o13.2.length) H rfl rfl rfl (wantF_none rfl) Try.underlying34 (Try.ty5.s) rfl rfl (by omega) (by omega) ?_
        clear H
        intro w ho26 H
        replace H : Sat _ _ _ [_, _, _] := H
        rw [tw_copy _ _ _ _ _ _ (by rw [List.length_append, lensB_len, List.length_take]; have := ok.len; simp only [List.length_singleton]; omega) (by omega)] at H
        refine TF.u (v := (.int .i64 _)) rfl rfl (pr_add rfl rfl (show _ = ((10 + ((valsB (p.cells.take i)).length + o13.2.length) : Nat) : Int) from (IntWalk.i64_in _ (by omega)).trans (by omega))) ?_
        refine TF.u (v := (.int .i64 _)) rfl rfl (pr_assign rfl) ?_
        clear hB
        refine TF.nil (nx_block (nx_then ?_))
        -- region 11 page.go:33
        refine cw_region (clf [.U, .U]) [0, 1] rfl (by kernel_rfl) (by decide) ?_
        skip
        refine TF.u (v := (.int .i64 _)) rfl rfl (pr_add rfl rfl (IntWalk.i64_in _ (by omega))) ?_
        refine TF.u (v := (.int .i64 _)) rfl rfl (pr_move rfl) ?_
        refine TF.nil (nx_loop (m' := 8 - (i + 1)) (by omega) ?_)
        exact ⟨_, i + 1, rfl, (cutS (cutS (cutS (cutS (cutS rfl rfl) rfl) (by rw [valsB_snoc ho13, valB_T hu, List.length_append]; rfl)) rfl) rfl), (by rw [lensB_snoc ho13, valsB_snoc ho13, lenB_T hu, valB_T hu]; rw [List.length_append, show 226 - ((valsB (p.cells.take i)).length + o13.2.length) = 226 - (valsB (p.cells.take i)).length - o13.2.length by omega]; exact H.del 0), by omega⟩
      ·
        have hp22 := hq22
        refine cw_skip (nx_block (nx_then ?_))
        -- region 11 page.go:33
        refine cw_region (clf [.U, .U]) [0, 1] rfl (by kernel_rfl) (by decide) ?_
        have hu : o13.1 = false := by assumption
        refine TF.u (v := (.int .i64 _)) rfl rfl (pr_add rfl rfl (IntWalk.i64_in _ (by omega))) ?_
        refine TF.u (v := (.int .i64 _)) rfl rfl (pr_move rfl) ?_
        refine TF.nil (nx_loop (m' := 8 - (i + 1)) (by omega) ?_)
        exact ⟨_, i + 1, rfl, (cutS (cutS (cutS (cutS (cutS rfl rfl) rfl) (by rw [valsB_snoc ho13, valB_F hu, List.append_nil]; rfl)) rfl) rfl), (by rw [lensB_snoc ho13, valsB_snoc ho13, lenB_F hu, valB_F hu]; rw [List.append_nil]; exact H.del 0), by omega⟩
    ·
      have hp12 := dF hq12
      refine cw_exit (ex_then (ex_then (ex_here (nx_then ?_))))
      refine cw_seq ?_
      -- region 12 page.go:40
      refine cw_region (clf [.U, .X, .U]) [0, 1, 2] rfl (by kernel_rfl) (by decide) ?_
      obtain rfl : i = 8 := by omega
      rw [tw_end (l := p.cells) (by rw [List.take_of_length_le (Nat.le_of_eq ok.len)]) (by rw [List.take_of_length_le (Nat.le_of_eq ok.len)]) ok.len rfl rfl] at H
      have htl := tale0_len (id := id) ok.len fun c hc => ((rightP_spec hr).1 c hc).1
      refine TF.u (v := (.slice _ _ _)) rfl rfl (pr_move rfl) ?_
      refine TF.call (args := [(.slice _ _ _)]) Try.fn60 rfl rfl (wantF_none rfl) rfl (seal_ok _ _ _ _ _ (H.rd (k := 0) rfl) (by first | omega | (simp only [List.length_append]; omega))) ?_
      rintro e_ w ⟨A27, n27, c27, rfl, hn27⟩
      refine ⟨_, rfl, ?_⟩
      replace H := H.newS hn27
      refine TF.u (v := (.slice _ _ _)) rfl rfl (pr_assign rfl) ?_
      refine TF.nil (nx_then ?_)
      refine cw_ret (fin1 (v := (.slice _ _ _)) Try.results55 rfl rfl ?_)
      exact ⟨_, _, _, rfl, H.toNew (k := 0) rfl⟩

theorem encode_ok (id : Int) (p : PG) (ok : POk p) (w0 : World) (h1 : -9223372036854775808 ≤ id) (h2 : id ≤ 9223372036854775807) :
    Calls Try.prog 44 #[.int .i64 id, .agg ⟨pgV p⟩] w0 fun e w => ∃ A1 n1 c1, e = .returned (.tuple #[.slice A1 n1 c1, .int .i64 (encS id p).2]) ∧ NewB w0 w 5 A1 n1 c1 (encS id p).1 := by
  refine enter (args := [.int .i64 id, .agg ⟨pgV p⟩]) Try.func44 rfl Try.ntmps44 rfl ?_
  have H := Sat.start w0
  refine cw_seq ?_
  -- region 0 page.go:44
  refine cw_region (clf [.X, .U, .U]) [0, 1, 2] rfl (by kernel_rfl) (by decide) ?_
  refine TF.box (v := (.agg ⟨pgV p⟩)) H rfl (Cx.xx rfl) (wantF_none rfl) rfl rfl ?_
  clear H
  intro bk1 w hltbk1 hb2 H
  refine TF.u (v := (.slice _ _ _)) rfl rfl (pr_assign rfl) ?_
  refine TF.u (v := (.int .i64 _)) rfl rfl (pr_assign rfl) ?_
  refine TF.nil (nx_then ?_)
  refine cw_seq ?_
  refine cw_seq ?_
  -- region 1 page.go:45
  refine cw_region (clf [.U, .X, .U, .U, .X, .X, .U, .U]) [0, 1, 2, 3, 4, 5, 6, 7] rfl (by kernel_rfl) (by decide) ?_
  refine TF.u (v := (.int .i64 _)) rfl rfl (pr_move rfl) ?_
  refine TF.call (args := [(.int .i64 _)]) Try.fn41 rfl rfl (wantF_none rfl) rfl (number_ok_ _ _ (by omega) (by omega)) ?_
  rintro e_ w ⟨rfl, hb3⟩
  refine ⟨_, rfl, ?_⟩
  replace H := H.below hb3
  refine TF.u (v := (.bool _)) rfl rfl (pr_not rfl) ?_
  refine TF.u (v := (.bool _)) rfl rfl (pr_move rfl) ?_
  refine TF.split (dj := 12) rfl (fun hq5 => ?_) (fun hq5 => ?_)
  ·
    have hp5 := (nT hq5)
    refine TF.skip rfl (wantF_no rfl rfl rfl (bnF (nT hq5))) ?_
    refine TF.skip rfl (wantF_no rfl rfl rfl (bnF (nT hq5))) ?_
    refine TF.skip rfl (wantF_no rfl rfl rfl (bnF (nT hq5))) ?_
    refine TF.u (v := (.bool _)) rfl rfl (pr_pickT rfl (bnF (nT hq5)) rfl) ?_
    refine TF.nil (nx_then ?_)
    refine cw_condT (t := _) rfl rfl rfl ?_
    refine cw_seq ?_
    -- region 2 page.go:46
    refine cw_region (clf [.U, .U]) [0, 1] rfl (by kernel_rfl) (by decide) ?_
    refine TF.u (v := (.slice _ _ _)) rfl rfl (pr_assign rfl) ?_
    refine TF.u (v := (.int .i64 _)) rfl rfl (pr_assign rfl) ?_
    refine TF.nil (nx_then ?_)
    refine cw_ret (rt_then (fin2 (v := (.slice _ _ _)) (v' := (.int .i64 _)) Try.results44 rfl rfl rfl rfl ?_))
    rw [encS_no1 (by assumption)]
    exact ⟨_, _, _, rfl, NewS.nilB H.base _ _⟩
  ·
    have hp5 := (nF hq5)
    refine TF.loadE (cs' := pgV p) rfl rfl (wantF_yes rfl rfl rfl (bnT (nF hq5))) (Try.ty27.s) rfl rfl (H.blk (k := 0) rfl) (pgV_len ok.len) (pgV_all ok.len) ?_
    refine TF.call (args := [(.agg ⟨pgV p⟩)]) Try.fn25 rfl rfl (wantF_yes rfl rfl rfl (bnT (nF hq5))) rfl (pright_ok p ok _) ?_
    rintro e_ w ⟨rfl, hb6⟩
    refine ⟨_, rfl, ?_⟩
    replace H := H.below hb6
    refine TF.ug (v := (.bool _)) rfl rfl (wantF_yes rfl rfl rfl (bnT (nF hq5))) (pr_not rfl) ?_
    refine TF.u (v := (.bool _)) rfl rfl (pr_pickF rfl (bnT (nF hq5)) rfl) ?_
    refine TF.nil (nx_then ?_)
    refine cw_cond _ rfl rfl (fun hq8 => ?_) (fun hq8 => ?_)
    ·
      have hp8 := (nT hq8)
      refine cw_seq ?_
      -- region 2 page.go:46
      refine cw_region (clf [.U, .U]) [0, 1] rfl (by kernel_rfl) (by decide) ?_
      refine TF.u (v := (.slice _ _ _)) rfl rfl (pr_assign rfl) ?_
      refine TF.u (v := (.int .i64 _)) rfl rfl (pr_assign rfl) ?_
      refine TF.nil (nx_then ?_)
      refine cw_ret (rt_then (fin2 (v := (.slice _ _ _)) (v' := (.int .i64 _)) Try.results44 rfl rfl rfl rfl ?_))
      rw [encS_no2 (by assumption)]
      exact ⟨_, _, _, rfl, NewS.nilB H.base _ _⟩
    ·
      have hp8 := (nF hq8)
      refine cw_skip (nx_then ?_)
      refine cw_seq ?_
      -- region 3 page.go:48
      refine cw_region (clf [.U, .X, .X, .U]) [0, 1, 2, 3] rfl (by kernel_rfl) (by decide) ?_
      obtain ⟨hid0, hid1⟩ := numberP_iff.1 (by assumption)
      obtain ⟨k, rfl⟩ := Int.eq_ofNat_of_zero_le hid0
      have hr : rightP p = true := by assumption
      have htl := taleS_len (id := k) ok.len hr
      refine TF.u (v := (.int .i64 _)) rfl rfl (pr_move rfl) ?_
      refine TF.loadE (cs' := pgV p) rfl rfl (wantF_none rfl) (Try.ty27.s) rfl rfl (H.blk (k := 0) rfl) (pgV_len ok.len) (pgV_all ok.len) ?_
      refine TF.call (args := [(.int .i64 _), (.agg ⟨pgV p⟩)]) Try.fn55 rfl rfl (wantF_none rfl) rfl (tale_ok _ p ok _ (by omega) (by assumption)) ?_
      rintro e_ w ⟨A9, n9, c9, rfl, hn9⟩
      refine ⟨_, rfl, ?_⟩
      replace H := H.newS hn9
      refine TF.u (v := (.slice _ _ _)) rfl rfl (pr_assign rfl) ?_
      refine TF.nil (nx_then ?_)
      refine cw_seq ?_
      -- region 4 page.go:49
      refine cw_region (clf [.X, .U]) [0, 1] rfl (by kernel_rfl) (by decide) ?_
      refine TF.make (nl := 0) (nc := 256) (z1 := undef) H rfl (Cx.xx rfl) (wantF_none rfl) Try.underlying34 (Try.ty5) rfl rfl (by omega) (by omega) (by unfold maxLen; omega) ?_
      clear H
      intro bk11 w hltbk11 hb12 H
      rw [made_u8] at H
      replace H := H.toOwn0 (q := 0) (sz := 1) (nc := 256) rfl (by simp [u8s_len]) (by unfold maxLen; omega)
      replace H : Sat _ _ _ [_, _, _] := H
      refine TF.u (v := (.slice _ _ _)) rfl rfl (pr_assign rfl) ?_
      refine TF.nil (nx_then ?_)
      refine cw_seq ?_
      refine cw_seq ?_
      -- region 5 page.go:50
      refine cw_region (clf [.U]) [0] rfl (by kernel_rfl) (by decide) ?_
      refine TF.u (v := (.int .i64 _)) rfl rfl (pr_move rfl) ?_
      refine TF.nil (nx_then ?_)
      refine cw_block ?_
      refine cw_loop (fun m_q f_q w => ∃ (g_ : Nat → Value) (i : Nat) (A1 : Option Addr) (n1 : Nat) (c1 : Nat), m_q = 2 - i ∧ f_q = (upd (upd (upd (upd g_ 3 (.pointer (some ⟨bk1, 0, none⟩))) 6 (.slice A9 n9 c9)) 7 (.slice A1 n1 c1)) 21 (.int .i64 (i : Int))) ∧ Sat [] w0 w [cOwnB 5 A1 n1 c1 (imgW p.lsn (taleS k p) i), cOwnB 5 A9 n9 c9 (taleS k p), cBlk bk1 27 (pgV p)] ∧ (i ≤ 2)) (2 - 0) ?_ ?_
      ·
        exact ⟨_, 0, _, _, _, rfl, (cutS (cutS (cutS (cutS rfl rfl) rfl) rfl) rfl), H, Nat.zero_le _⟩
      ·
        clear H
        rintro m_ f_ w ⟨g_, i, A1, n1, c1, rfl, rfl, H, hi⟩
        have hlo := (H.rdB (k := 0) rfl).length
        have hlt := (H.rdB (k := 1) rfl).length
        have hct := (H.rdB (k := 1) rfl).cap
        have hil := imgW_len (lsn := p.lsn) htl hi
        refine cw_seq ?_
        -- region 6 page.go:50
        refine cw_region (clf [.U]) [0] rfl (by kernel_rfl) (by decide) ?_
        refine TF.u (v := (.bool _)) rfl rfl (pr_lss rfl rfl) ?_
        refine TF.nil (nx_then ?_)
        refine cw_seq ?_
        refine cw_cond _ rfl rfl (fun hq14 => ?_) (fun hq14 => ?_)
        ·
          have hp14 := dT hq14
          refine cw_skip (nx_then ?_)
          refine cw_seq ?_
          refine cw_block ?_
          refine cw_seq ?_
          -- region 7 page.go:50
          refine cw_region (clf [.U, .U]) [0, 1] rfl (by kernel_rfl) (by decide) ?_
          refine TF.u (v := (.int .i64 _)) rfl rfl (pr_move rfl) ?_
          refine TF.u (v := (.int .i64 _)) rfl rfl (pr_assign rfl) ?_
          refine TF.nil (nx_then ?_)
          refine cw_seq ?_
          -- region 8 page.go:51
          refine cw_region (clf [.U, .U, .X, .X, .U, .U, .U, .U]) [0, 1, 2, 3, 4, 5, 6, 7] rfl (by kernel_rfl) (by decide) ?_
          have hlsn := ok.lsn
          refine TF.u (v := (.slice _ _ _)) rfl rfl (pr_move rfl) ?_
          refine TF.u (v := (.pointer (some ⟨_, 0, none⟩))) rfl rfl (pr_field (o' := 0) Try.underlying27 rfl (Try.ty22.s) (by decide) rfl rfl) ?_
          refine TF.load (v := (.int .u64 (p.lsn : Int))) rfl rfl (wantF_none rfl) Try.underlying22 rfl rfl ((H.blk (k := 2) rfl).at_ rfl) ?_
          refine TF.call (args := [(.slice _ _ _), (.int .i64 _), (.int .u64 (p.lsn : Int))]) Try.fn56 rfl rfl (wantF_none rfl) rfl (put_ok _ _ _ _ _ _ _ (H.rd (k := 0) rfl) (by omega) (by omega) (by omega) (by omega)) ?_
          rintro e_ w ⟨A15, n15, c15, rfl, hn15⟩
          refine ⟨_, rfl, ?_⟩
          replace H := H.newS hn15
          refine TF.u (v := (.tuple _)) rfl rfl (pr_move rfl) ?_
          refine TF.u (v := (.slice _ _ _)) rfl rfl (pr_extract (vs := _) rfl rfl) ?_
          refine TF.u (v := (.int .i64 _)) rfl rfl (pr_extract (vs := _) rfl rfl) ?_
          refine TF.u (v := (.slice _ _ _)) rfl rfl (pr_assign rfl) ?_
          rw [putS_yes (fits8 hlsn)] at H
          rw [show Int.toNat 8 = 8 from rfl] at H
          have hlo2 := (H.rdB (k := 0) rfl).length
          simp only [List.length_append, be_len] at hlo2
          refine TF.nil (nx_then ?_)
          -- region 9 page.go:52
          refine cw_region (clf [.U, .U, .U, .U, .U, .U, .U, .U, .X, .U]) [0, 1, 2, 3, 4, 5, 6, 7, 8, 9] rfl (by kernel_rfl) (by decide) ?_
          refine TF.u (v := (.slice _ _ _)) rfl rfl (pr_move rfl) ?_
          refine TF.u (v := (.slice _ _ _)) rfl rfl (pr_move rfl) ?_
          refine TF.u (v := (.int .i64 _)) rfl rfl (pr_move rfl) ?_
          refine TF.u (v := (.int .i64 _)) rfl rfl (pr_mul rfl rfl (show _ = ((i * 120 : Nat) : Int) from (IntWalk.i64_in _ (by omega)).trans (by omega))) ?_
          refine TF.u (v := (.int .i64 _)) rfl rfl (pr_move rfl) ?_
          refine TF.u (v := (.int .i64 _)) rfl rfl (pr_add rfl rfl (show _ = ((i + 1 : Nat) : Int) from (IntWalk.i64_in _ (by omega)).trans (by omega))) ?_
          refine TF.u (v := (.int .i64 _)) rfl rfl (pr_mul rfl rfl (show _ = (((i + 1) * 120 : Nat) : Int) from (IntWalk.i64_in _ (by omega)).trans (by omega))) ?_
          refine TF.u (v := (.slice _ _ _)) rfl rfl (pr_cut (l := (i * 120)) (h := ((i + 1) * 120)) (mm := c9) Try.underlying34 (Try.ty5.s) rfl (.inr ⟨_, _, rfl, rfl⟩) (.inr ⟨_, _, rfl, rfl⟩) (.inl ⟨rfl, rfl⟩) (by omega) (by omega) (by omega) (n' := 120) (c' := (c9 - i * 120)) (by omega) (by omega)) ?_
          have hcut17 := RdB.cut (lo := (i * 120)) (hi := ((i + 1) * 120)) (m := c9) (n' := 120) (c' := (c9 - i * 120)) (H.rd (k := 2) rfl) (by omega) (by omega) (by omega) (by omega) (by omega) (by omega)
          refine TF.append (q := 0) (v := (.slice _ _ _)) H rfl rfl rfl (wantF_none rfl) Try.underlying34 (Try.ty5) rfl Try.underlying34 (.inr ⟨_, rfl⟩) rfl rfl (Src.rdB hcut17) (by unfold maxLen; first | omega | (simp only [List.length_append, List.length_cons, List.length_nil]; omega)) (by first | omega | (simp only [List.length_append, List.length_cons, List.length_nil]; omega)) ?_
          clear H
          intro Aow16_18 cow16_18 w ho18 H
          replace H : Sat _ _ _ [_, _, _, _] := H
          rw [← u8s_app] at H
          refine TF.u (v := (.slice _ _ _)) rfl rfl (pr_assign rfl) ?_
          refine TF.nil (nx_block (nx_then ?_))
          -- region 10 page.go:50
          refine cw_region (clf [.U, .U]) [0, 1] rfl (by kernel_rfl) (by decide) ?_
          refine TF.u (v := (.int .i64 _)) rfl rfl (pr_add rfl rfl (IntWalk.i64_in _ (by omega))) ?_
          refine TF.u (v := (.int .i64 _)) rfl rfl (pr_move rfl) ?_
          refine TF.nil (nx_loop (m' := 2 - (i + 1)) (by omega) ?_)
          exact ⟨_, i + 1, _, _, _, rfl, (cutS (cutS (cutS (cutS rfl rfl) rfl) rfl) rfl), (H.del 1), by omega⟩
        ·
          have hp14 := dF hq14
          refine cw_exit (ex_then (ex_then (ex_here (nx_then ?_))))
          refine cw_seq ?_
          -- region 11 page.go:54
          refine cw_region (clf [.U, .U, .U]) [0, 1, 2] rfl (by kernel_rfl) (by decide) ?_
          obtain rfl : i = 2 := by omega
          rw [imgW_end htl] at H
          rw [encS_yes (by assumption) hr]
          refine TF.u (v := (.slice _ _ _)) rfl rfl (pr_move rfl) ?_
          refine TF.u (v := (.slice _ _ _)) rfl rfl (pr_assign rfl) ?_
          refine TF.u (v := (.int .i64 _)) rfl rfl (pr_assign rfl) ?_
          refine TF.nil (nx_then ?_)
          refine cw_ret (fin2 (v := (.slice _ _ _)) (v' := (.int .i64 _)) Try.results44 rfl rfl rfl rfl ?_)
          exact ⟨_, _, _, rfl, H.toNew (k := 0) rfl⟩

theorem ptorn_ok (A : Option Addr) (n c : Nat) (b : List UInt8) (w0 : World) (hb : RdB w0 A n c b) :
    Calls Try.prog 35 #[.slice A n c] w0 fun e w => e = .returned (.bool (tornS b)) ∧ Below w0.heap.size w0 w := by
  refine enter (args := [.slice A n c]) Try.func35 rfl Try.ntmps35 rfl ?_
  have H := Sat.start w0
  have hl := hb.length
  have hc := hb.cap
  refine cw_seq ?_
  -- region 0 page.go:58
  refine cw_region (clf [.U]) [0] rfl (by kernel_rfl) (by decide) ?_
  refine TF.u (v := (.bool _)) rfl rfl (pr_assign rfl) ?_
  refine TF.nil (nx_then ?_)
  refine cw_seq ?_
  -- region 1 page.go:59
  refine cw_drawS H Try.wide_ (clf [.U, .U, .U, .U, .U, .U, .R, .U, .U, .R, .U, .U, .U]) [0, 1, 2, 3, 4, 5, 6, 7, 8, 9, 10, 11, 12] (by kernel_rfl) (by kernel_rfl) ?_
  clear H
  intro w hbr H hB
  refine TF.u (v := (.slice _ _ _)) rfl rfl (pr_move rfl) ?_
  refine TF.u (v := (.int .i64 _)) rfl rfl (pr_len rfl Try.underlying34 rfl) ?_
  refine TF.u (v := (.bool _)) rfl rfl (pr_eql rfl rfl) ?_
  refine TF.u (v := (.bool _)) rfl rfl (pr_move rfl) ?_
  refine TF.split (dj := 6) rfl (fun hq2 => ?_) (fun hq2 => ?_)
  ·
    have hp2 := dT hq2
    refine TF.ug (v := (.slice _ _ _)) rfl rfl (wantF_yes rfl rfl rfl hq2) (pr_move rfl) ?_
    refine TF.ug (v := (.slice _ _ _)) rfl rfl (wantF_yes rfl rfl rfl hq2) (pr_cut (l := 0) (h := 8) (mm := c) Try.underlying34 (Try.ty5.s) rfl (.inl ⟨rfl, rfl⟩) (.inr ⟨_, _, rfl, rfl⟩) (.inl ⟨rfl, rfl⟩) (by omega) (by omega) (by omega) (n' := 8) (c' := (c - 0)) (by omega) (by omega)) ?_
    have hcut3 := RdB.cut (lo := 0) (hi := 8) (m := c) (n' := 8) (c' := (c - 0)) hb (by omega) (by omega) (by omega) (by omega) (by omega) (by omega)
    refine TF.tostrr (RdS.all (hcut3.below H.base)) rfl rfl (wantF_yes rfl rfl rfl hq2) Try.underlying34 Try.underlying5 Try.underlying9 rfl ?_
    refine TF.ug (v := (.slice _ _ _)) rfl rfl (wantF_yes rfl rfl rfl hq2) (pr_move rfl) ?_
    refine TF.ug (v := (.slice _ _ _)) rfl rfl (wantF_yes rfl rfl rfl hq2) (pr_cut (l := 128) (h := 136) (mm := c) Try.underlying34 (Try.ty5.s) rfl (.inr ⟨_, _, rfl, rfl⟩) (.inr ⟨_, _, rfl, rfl⟩) (.inl ⟨rfl, rfl⟩) (by omega) (by omega) (by omega) (n' := 8) (c' := (c - 128)) (by omega) (by omega)) ?_
    have hcut4 := RdB.cut (lo := 128) (hi := 136) (m := c) (n' := 8) (c' := (c - 128)) hb (by omega) (by omega) (by omega) (by omega) (by omega) (by omega)
    refine TF.tostrr (RdS.all (hcut4.below H.base)) rfl rfl (wantF_yes rfl rfl rfl hq2) Try.underlying34 Try.underlying5 Try.underlying9 rfl ?_
    refine TF.ug (v := (.bool _)) rfl rfl (wantF_yes rfl rfl rfl hq2) (pr_sneq rfl rfl) ?_
    refine TF.u (v := (.bool _)) rfl rfl (pr_pickT rfl hq2 rfl) ?_
    refine TF.u (v := (.bool _)) rfl rfl (pr_assign rfl) ?_
    clear hB
    refine TF.nil (nx_then ?_)
    refine cw_ret (fin1 (v := (.bool _)) Try.results35 rfl rfl ?_)
    rw [← torn_end (b := b) (by first | exact .inl ⟨by omega, by first | rfl | assumption⟩ | exact .inr ⟨by omega, by first | rfl | (simp_all; done)⟩)]
    exact ⟨rfl, H.base⟩
  ·
    have hp2 := dF hq2
    refine TF.skip rfl (wantF_no rfl rfl rfl hq2) ?_
    refine TF.skip rfl (wantF_no rfl rfl rfl hq2) ?_
    refine TF.skip rfl (wantF_no rfl rfl rfl hq2) ?_
    refine TF.skip rfl (wantF_no rfl rfl rfl hq2) ?_
    refine TF.skip rfl (wantF_no rfl rfl rfl hq2) ?_
    refine TF.skip rfl (wantF_no rfl rfl rfl hq2) ?_
    refine TF.skip rfl (wantF_no rfl rfl rfl hq2) ?_
    refine TF.u (v := (.bool _)) rfl rfl (pr_pickF rfl hq2 rfl) ?_
    refine TF.u (v := (.bool _)) rfl rfl (pr_assign rfl) ?_
    clear hB
    refine TF.nil (nx_then ?_)
    refine cw_ret (fin1 (v := (.bool _)) Try.results35 rfl rfl ?_)
    rw [← torn_end (b := b) (by first | exact .inl ⟨by omega, by first | rfl | assumption⟩ | exact .inr ⟨by omega, by first | rfl | (simp_all; done)⟩)]
    exact ⟨rfl, H.base⟩

theorem rtorn_ok (b : List UInt8) (w0 : World) :
    Calls Try.prog 52 #[T b] w0 fun e w => e = .returned (.bool (tornS b)) ∧ Below w0.heap.size w0 w := by
  refine enter (args := [T b]) Try.func52 rfl Try.ntmps52 rfl ?_
  have H := Sat.start w0
  refine cw_seq ?_
  -- region 0 ref.go:57
  refine cw_region (clf [.U]) [0] rfl (by kernel_rfl) (by decide) ?_
  refine TF.u (v := (.bool _)) rfl rfl (pr_assign rfl) ?_
  refine TF.nil (nx_then ?_)
  refine cw_seq ?_
  -- region 1 ref.go:57
  refine cw_drawS H Try.wide_ (clf [.U, .U, .U, .U, .U, .U, .U, .U, .U, .U, .U]) [0, 1, 2, 3, 4, 5, 6, 7, 8, 9, 10] (by kernel_rfl) (by kernel_rfl) ?_
  clear H
  intro w hbr H hB
  refine TF.u (v := (T _)) rfl rfl (pr_move rfl) ?_
  refine TF.u (v := (.int .i64 _)) rfl rfl (pr_slen rfl Try.underlying9 rfl) ?_
  refine TF.u (v := (.bool _)) rfl rfl (pr_eql rfl rfl) ?_
  refine TF.u (v := (.bool _)) rfl rfl (pr_move rfl) ?_
  refine TF.split (dj := 6) rfl (fun hq2 => ?_) (fun hq2 => ?_)
  ·
    have hp2 := dT hq2
    refine TF.ug (v := (T _)) rfl rfl (wantF_yes rfl rfl rfl hq2) (pr_move rfl) ?_
    refine TF.ug (v := (T _)) rfl rfl (wantF_yes rfl rfl rfl hq2) (pr_sslice (l := 0) (h := 8) Try.underlying9 rfl (.inl ⟨rfl, rfl⟩) (.inr ⟨_, _, rfl, rfl⟩) (by omega) (by omega)) ?_
    refine TF.ug (v := (T _)) rfl rfl (wantF_yes rfl rfl rfl hq2) (pr_move rfl) ?_
    refine TF.ug (v := (T _)) rfl rfl (wantF_yes rfl rfl rfl hq2) (pr_sslice (l := 128) (h := 136) Try.underlying9 rfl (.inr ⟨_, _, rfl, rfl⟩) (.inr ⟨_, _, rfl, rfl⟩) (by omega) (by omega)) ?_
    refine TF.ug (v := (.bool _)) rfl rfl (wantF_yes rfl rfl rfl hq2) (pr_sneq rfl rfl) ?_
    refine TF.u (v := (.bool _)) rfl rfl (pr_pickT rfl hq2 rfl) ?_
    refine TF.u (v := (.bool _)) rfl rfl (pr_assign rfl) ?_
    clear hB
    refine TF.nil (nx_then ?_)
    refine cw_ret (fin1 (v := (.bool _)) Try.results52 rfl rfl ?_)
    rw [← torn_ends (b := b) (by first | exact .inl ⟨by omega, by first | rfl | assumption⟩ | exact .inr ⟨by omega, by first | rfl | (simp_all; done)⟩)]
    exact ⟨rfl, H.base⟩
  ·
    have hp2 := dF hq2
    refine TF.skip rfl (wantF_no rfl rfl rfl hq2) ?_
    refine TF.skip rfl (wantF_no rfl rfl rfl hq2) ?_
    refine TF.skip rfl (wantF_no rfl rfl rfl hq2) ?_
    refine TF.skip rfl (wantF_no rfl rfl rfl hq2) ?_
    refine TF.skip rfl (wantF_no rfl rfl rfl hq2) ?_
    refine TF.u (v := (.bool _)) rfl rfl (pr_pickF rfl hq2 rfl) ?_
    refine TF.u (v := (.bool _)) rfl rfl (pr_assign rfl) ?_
    clear hB
    refine TF.nil (nx_then ?_)
    refine cw_ret (fin1 (v := (.bool _)) Try.results52 rfl rfl ?_)
    rw [← torn_ends (b := b) (by first | exact .inl ⟨by omega, by first | rfl | assumption⟩ | exact .inr ⟨by omega, by first | rfl | (simp_all; done)⟩)]
    exact ⟨rfl, H.base⟩

theorem pstamp_ok (A : Option Addr) (n c : Nat) (b : List UInt8) (w0 : World) (hb : RdB w0 A n c b) (hn : n ≤ 281474976710656) :
    Calls Try.prog 32 #[.slice A n c] w0 fun e w => e = .returned (.tuple #[.int .u64 ((stampS b).1 : Int), .bool (stampS b).2]) ∧ Below w0.heap.size w0 w := by
  refine enter (args := [.slice A n c]) Try.func32 rfl Try.ntmps32 rfl ?_
  have H := Sat.start w0
  have hl := hb.length
  refine cw_seq ?_
  -- region 0 page.go:63
  refine cw_region (clf [.U, .U]) [0, 1] rfl (by kernel_rfl) (by decide) ?_
  refine TF.u (v := (.int .u64 _)) rfl rfl (pr_assign rfl) ?_
  refine TF.u (v := (.bool _)) rfl rfl (pr_assign rfl) ?_
  refine TF.nil (nx_then ?_)
  refine cw_seq ?_
  refine cw_seq ?_
  -- region 1 page.go:64
  refine cw_region (clf [.U, .U, .U, .U, .U, .X, .U]) [0, 1, 2, 3, 4, 5, 6] rfl (by kernel_rfl) (by decide) ?_
  refine TF.u (v := (.slice _ _ _)) rfl rfl (pr_move rfl) ?_
  refine TF.u (v := (.int .i64 _)) rfl rfl (pr_len rfl Try.underlying34 rfl) ?_
  refine TF.u (v := (.bool _)) rfl rfl (pr_neq rfl rfl) ?_
  refine TF.u (v := (.bool _)) rfl rfl (pr_move rfl) ?_
  refine TF.split (dj := 9) rfl (fun hq2 => ?_) (fun hq2 => ?_)
  ·
    have hp2 := dF (nT hq2)
    refine TF.skip rfl (wantF_no rfl rfl rfl hq2) ?_
    refine TF.skip rfl (wantF_no rfl rfl rfl hq2) ?_
    refine TF.u (v := (.bool _)) rfl rfl (pr_pickT rfl hq2 rfl) ?_
    refine TF.nil (nx_then ?_)
    refine cw_condT (t := _) rfl rfl rfl ?_
    refine cw_seq ?_
    -- region 2 page.go:65
    refine cw_region (clf [.U, .U]) [0, 1] rfl (by kernel_rfl) (by decide) ?_
    refine TF.u (v := (.int .u64 _)) rfl rfl (pr_assign rfl) ?_
    refine TF.u (v := (.bool _)) rfl rfl (pr_assign rfl) ?_
    refine TF.nil (nx_then ?_)
    refine cw_ret (rt_then (fin2 (v := (.int .u64 _)) (v' := (.bool _)) Try.results32 rfl rfl rfl rfl ?_))
    first | rw [stamp_torn (by assumption)] | rw [stamp_no (by omega)]
    exact ⟨rfl, H.base⟩
  ·
    have hp2 := dT (nF hq2)
    refine TF.ug (v := (.slice _ _ _)) rfl rfl (wantF_yes rfl rfl rfl hq2) (pr_move rfl) ?_
    refine TF.call (args := [(.slice _ _ _)]) Try.fn35 rfl rfl (wantF_yes rfl rfl rfl hq2) rfl (ptorn_ok _ _ _ _ _ (hb.below H.base)) ?_
    rintro e_ w ⟨rfl, hb3⟩
    refine ⟨_, rfl, ?_⟩
    replace H := H.below hb3
    refine TF.u (v := (.bool _)) rfl rfl (pr_pickF rfl hq2 rfl) ?_
    refine TF.nil (nx_then ?_)
    refine cw_cond _ rfl rfl (fun hq5 => ?_) (fun hq5 => ?_)
    ·
      have hp5 := hq5
      refine cw_seq ?_
      -- region 2 page.go:65
      refine cw_region (clf [.U, .U]) [0, 1] rfl (by kernel_rfl) (by decide) ?_
      refine TF.u (v := (.int .u64 _)) rfl rfl (pr_assign rfl) ?_
      refine TF.u (v := (.bool _)) rfl rfl (pr_assign rfl) ?_
      refine TF.nil (nx_then ?_)
      refine cw_ret (rt_then (fin2 (v := (.int .u64 _)) (v' := (.bool _)) Try.results32 rfl rfl rfl rfl ?_))
      first | rw [stamp_torn (by assumption)] | rw [stamp_no (by omega)]
      exact ⟨rfl, H.base⟩
    ·
      have hp5 := hq5
      refine cw_skip (nx_then ?_)
      refine cw_seq ?_
      -- region 3 page.go:67
      refine cw_region (clf [.U, .X, .U, .U, .U, .U, .U]) [0, 1, 2, 3, 4, 5, 6] rfl (by kernel_rfl) (by decide) ?_
      have htorn : tornS b = false := by assumption
      obtain ⟨hst1, hst2, hst3⟩ := stamp_yes (b := b) (by omega) htorn
      refine TF.u (v := (.slice _ _ _)) rfl rfl (pr_move rfl) ?_
      refine TF.call (args := [(.slice _ _ _), (.int .i64 _), (.int .i64 _)]) Try.fn45 rfl rfl (wantF_none rfl) rfl (take_ok _ _ _ _ _ _ _ (hb.below H.base) (by omega) (by omega) (by omega) (by omega) (by omega)) ?_
      rintro e_ w ⟨rfl, hb6⟩
      refine ⟨_, rfl, ?_⟩
      replace H := H.below hb6
      refine TF.u (v := (.tuple _)) rfl rfl (pr_move rfl) ?_
      refine TF.u (v := (.int .u64 _)) rfl rfl (pr_extract (vs := _) rfl rfl) ?_
      refine TF.u (v := (.int .i64 _)) rfl rfl (pr_extract (vs := _) rfl rfl) ?_
      refine TF.u (v := (.int .u64 _)) rfl rfl (pr_assign rfl) ?_
      refine TF.u (v := (.int .i64 _)) rfl rfl (pr_assign rfl) ?_
      refine TF.nil (nx_then ?_)
      refine cw_seq ?_
      -- region 4 page.go:68
      refine cw_region (clf [.U, .U, .U, .U, .U]) [0, 1, 2, 3, 4] rfl (by kernel_rfl) (by decide) ?_
      refine TF.u (v := (.int .u64 _)) rfl rfl (pr_move rfl) ?_
      refine TF.u (v := (.int .i64 _)) rfl rfl (pr_move rfl) ?_
      refine TF.u (v := (.bool _)) rfl rfl (pr_eql rfl rfl) ?_
      refine TF.u (v := (.int .u64 _)) rfl rfl (pr_assign rfl) ?_
      refine TF.u (v := (.bool _)) rfl rfl (pr_assign rfl) ?_
      refine TF.nil (nx_then ?_)
      refine cw_ret (fin2 (v := (.int .u64 _)) (v' := (.bool _)) Try.results32 rfl rfl rfl rfl ?_)
      rw [hst1]
      first | exact ⟨rfl, H.base⟩ | exact ⟨by simp [hst2], H.base⟩

theorem rstamp_ok (b : List UInt8) (w0 : World) :
    Calls Try.prog 50 #[T b] w0 fun e w => e = .returned (.tuple #[.int .u64 ((stampS b).1 : Int), .bool (stampS b).2]) ∧ Below w0.heap.size w0 w := by
  refine enter (args := [T b]) Try.func50 rfl Try.ntmps50 rfl ?_
  have H := Sat.start w0
  refine cw_seq ?_
  -- region 0 ref.go:60
  refine cw_region (clf [.U, .U]) [0, 1] rfl (by kernel_rfl) (by decide) ?_
  refine TF.u (v := (.int .u64 _)) rfl rfl (pr_assign rfl) ?_
  refine TF.u (v := (.bool _)) rfl rfl (pr_assign rfl) ?_
  refine TF.nil (nx_then ?_)
  refine cw_seq ?_
  refine cw_seq ?_
  -- region 1 ref.go:61
  refine cw_region (clf [.U, .U, .U, .U, .U, .X, .U]) [0, 1, 2, 3, 4, 5, 6] rfl (by kernel_rfl) (by decide) ?_
  refine TF.u (v := (T _)) rfl rfl (pr_move rfl) ?_
  refine TF.u (v := (.int .i64 _)) rfl rfl (pr_slen rfl Try.underlying9 rfl) ?_
  refine TF.u (v := (.bool _)) rfl rfl (pr_neq rfl rfl) ?_
  refine TF.u (v := (.bool _)) rfl rfl (pr_move rfl) ?_
  refine TF.split (dj := 9) rfl (fun hq2 => ?_) (fun hq2 => ?_)
  ·
    have hp2 := dF (nT hq2)
    refine TF.skip rfl (wantF_no rfl rfl rfl hq2) ?_
    refine TF.skip rfl (wantF_no rfl rfl rfl hq2) ?_
    refine TF.u (v := (.bool _)) rfl rfl (pr_pickT rfl hq2 rfl) ?_
    refine TF.nil (nx_then ?_)
    refine cw_condT (t := _) rfl rfl rfl ?_
    refine cw_seq ?_
    -- region 2 ref.go:62
    refine cw_region (clf [.U, .U]) [0, 1] rfl (by kernel_rfl) (by decide) ?_
    refine TF.u (v := (.int .u64 _)) rfl rfl (pr_assign rfl) ?_
    refine TF.u (v := (.bool _)) rfl rfl (pr_assign rfl) ?_
    refine TF.nil (nx_then ?_)
    refine cw_ret (rt_then (fin2 (v := (.int .u64 _)) (v' := (.bool _)) Try.results50 rfl rfl rfl rfl ?_))
    first | rw [stamp_torn (by assumption)] | rw [stamp_no (by omega)]
    exact ⟨rfl, H.base⟩
  ·
    have hp2 := dT (nF hq2)
    refine TF.ug (v := (T _)) rfl rfl (wantF_yes rfl rfl rfl hq2) (pr_move rfl) ?_
    refine TF.call (args := [(T _)]) Try.fn52 rfl rfl (wantF_yes rfl rfl rfl hq2) rfl (rtorn_ok _ _) ?_
    rintro e_ w ⟨rfl, hb3⟩
    refine ⟨_, rfl, ?_⟩
    replace H := H.below hb3
    refine TF.u (v := (.bool _)) rfl rfl (pr_pickF rfl hq2 rfl) ?_
    refine TF.nil (nx_then ?_)
    refine cw_cond _ rfl rfl (fun hq5 => ?_) (fun hq5 => ?_)
    ·
      have hp5 := hq5
      refine cw_seq ?_
      -- region 2 ref.go:62
      refine cw_region (clf [.U, .U]) [0, 1] rfl (by kernel_rfl) (by decide) ?_
      refine TF.u (v := (.int .u64 _)) rfl rfl (pr_assign rfl) ?_
      refine TF.u (v := (.bool _)) rfl rfl (pr_assign rfl) ?_
      refine TF.nil (nx_then ?_)
      refine cw_ret (rt_then (fin2 (v := (.int .u64 _)) (v' := (.bool _)) Try.results50 rfl rfl rfl rfl ?_))
      first | rw [stamp_torn (by assumption)] | rw [stamp_no (by omega)]
      exact ⟨rfl, H.base⟩
    ·
      have hp5 := hq5
      refine cw_skip (nx_then ?_)
      refine cw_seq ?_
      -- region 3 ref.go:64
      refine cw_region (clf [.U, .X, .U, .U, .U, .U, .U]) [0, 1, 2, 3, 4, 5, 6] rfl (by kernel_rfl) (by decide) ?_
      have htorn : tornS b = false := by assumption
      obtain ⟨hst1, hst2, hst3⟩ := stamp_yes (b := b) (by omega) htorn
      refine TF.u (v := (T _)) rfl rfl (pr_move rfl) ?_
      refine TF.call (args := [(T _), (.int .i64 _), (.int .i64 _)]) Try.fn58 rfl rfl (wantF_none rfl) rfl (rtake_ok _ _ _ _ (by omega) (by omega) (by omega) (by omega) (by omega)) ?_
      rintro e_ w ⟨rfl, hb6⟩
      refine ⟨_, rfl, ?_⟩
      replace H := H.below hb6
      refine TF.u (v := (.tuple _)) rfl rfl (pr_move rfl) ?_
      refine TF.u (v := (.int .u64 _)) rfl rfl (pr_extract (vs := _) rfl rfl) ?_
      refine TF.u (v := (.int .i64 _)) rfl rfl (pr_extract (vs := _) rfl rfl) ?_
      refine TF.u (v := (.int .u64 _)) rfl rfl (pr_assign rfl) ?_
      refine TF.u (v := (.int .i64 _)) rfl rfl (pr_assign rfl) ?_
      refine TF.nil (nx_then ?_)
      refine cw_seq ?_
      -- region 4 ref.go:65
      refine cw_region (clf [.U, .U, .U]) [0, 1, 2] rfl (by kernel_rfl) (by decide) ?_
      refine TF.u (v := (.int .u64 _)) rfl rfl (pr_move rfl) ?_
      refine TF.u (v := (.int .u64 _)) rfl rfl (pr_assign rfl) ?_
      refine TF.u (v := (.bool _)) rfl rfl (pr_assign rfl) ?_
      refine TF.nil (nx_then ?_)
      refine cw_ret (fin2 (v := (.int .u64 _)) (v' := (.bool _)) Try.results50 rfl rfl rfl rfl ?_)
      rw [hst1]
      first | exact ⟨rfl, H.base⟩ | exact ⟨by simp [hst2], H.base⟩

theorem told_ok (id : Int) (A : Option Addr) (n c : Nat) (t : List UInt8) (w0 : World) (hb : RdB w0 A n c t) (hn : n = 236) (h1 : -9223372036854775808 ≤ id) (h2 : id ≤ 9223372036854775807) :
    Calls Try.prog 43 #[.int .i64 id, .slice A n c] w0 fun e w => ∃ p', e = .returned (.tuple #[.agg ⟨pgV p'⟩, .bool (toldS id t).isSome]) ∧ POk p' ∧ (∀ l, toldS id t = some l → p' = (PG.mk 0 l)) ∧ Below w0.heap.size w0 w := by
  refine enter (args := [.int .i64 id, .slice A n c]) Try.func43 rfl Try.ntmps43 rfl ?_
  have H := Sat.start w0
  have hl := hb.length
  have hc := hb.cap
  refine cw_seq ?_
  -- region 0 page.go:97
  refine cw_region (clf [.X, .U]) [0, 1] rfl (by kernel_rfl) (by decide) ?_
  refine TF.alloc H rfl (Cx.xx rfl) (wantF_none rfl) (Try.ty27) rfl ?_
  clear H
  intro bk1 w hltbk1 hb2 H
  replace H : Sat _ _ _ (cBlk _ _ (pgV noPg) :: _) := H
  replace H : Sat _ _ _ [_] := H
  refine TF.u (v := (.bool _)) rfl rfl (pr_assign rfl) ?_
  refine TF.nil (nx_then ?_)
  refine cw_seq ?_
  -- region 1 page.go:98
  refine cw_region (clf [.X]) [0] rfl (by kernel_rfl) (by decide) ?_
  refine TF.alloc H rfl (Cx.xx rfl) (wantF_none rfl) (Try.ty27) rfl ?_
  clear H
  intro bk3 w hltbk3 hb4 H
  replace H : Sat _ _ _ (cBlk _ _ (pgV noPg) :: _) := H
  replace H : Sat _ _ _ [_, _] := H
  refine TF.nil (nx_then ?_)
  refine cw_seq ?_
  -- region 2 page.go:99
  refine cw_region (clf [.U]) [0] rfl (by kernel_rfl) (by decide) ?_
  refine TF.u (v := (.int .i64 _)) rfl rfl (pr_assign rfl) ?_
  refine TF.nil (nx_then ?_)
  refine cw_seq ?_
  refine cw_seq ?_
  -- region 3 page.go:100
  refine cw_drawS H Try.wide_ (clf [.U, .U, .R, .U, .U, .U, .U, .R, .U, .U, .U, .U]) [0, 1, 2, 3, 4, 5, 6, 7, 8, 9, 10, 11] (by kernel_rfl) (by kernel_rfl) ?_
  clear H
  intro w hbr H hB
  have hb0 := (t.getD 0 0).toNat_lt
  have hb1 := (t.getD 1 0).toNat_lt
  refine TF.u (v := (.slice _ _ _)) rfl rfl (pr_move rfl) ?_
  refine TF.idxB (hb.below H.base) rfl rfl (wantF_none rfl) Try.underlying34 (Try.ty5.s) rfl rfl (by omega) (by omega) ?_
  intro p5 hc6
  replace hc6 : World.cell? _ _ = some (Value.int .u8 (((_ : List UInt8).getD 0 0).toNat : Int)) := hc6
  refine TF.loadr (v := (.int .u8 _)) rfl rfl (wantF_none rfl) Try.underlying5 rfl rfl (cellB hc6) ?_
  refine TF.u (v := (.int .i64 _)) rfl rfl (pr_conv Try.underlying5 Try.underlying3 rfl (u8i _)) ?_
  refine TF.u (v := (.int .i64 _)) rfl rfl (pr_shl rfl rfl (by omega) (shl_byte hb0)) ?_
  refine TF.u (v := (.slice _ _ _)) rfl rfl (pr_move rfl) ?_
  refine TF.idxB (hb.below H.base) rfl rfl (wantF_none rfl) Try.underlying34 (Try.ty5.s) rfl rfl (by omega) (by omega) ?_
  intro p7 hc8
  replace hc8 : World.cell? _ _ = some (Value.int .u8 (((_ : List UInt8).getD 1 0).toNat : Int)) := hc8
  refine TF.loadr (v := (.int .u8 _)) rfl rfl (wantF_none rfl) Try.underlying5 rfl rfl (cellB hc8) ?_
  refine TF.u (v := (.int .i64 _)) rfl rfl (pr_conv Try.underlying5 Try.underlying3 rfl (u8i _)) ?_
  refine TF.u (v := (.int .i64 _)) rfl rfl (pr_or rfl rfl (or_bytes hb0 hb1)) ?_
  refine TF.u (v := (.int .i64 _)) rfl rfl (pr_move rfl) ?_
  refine TF.u (v := (.bool _)) rfl rfl (pr_neq rfl rfl) ?_
  clear hB
  refine TF.nil (nx_then ?_)
  refine cw_cond _ rfl rfl (fun hq10 => ?_) (fun hq10 => ?_)
  ·
    have hp10 := dF (nT hq10)
    refine cw_seq ?_
    -- region 4 page.go:101
    refine cw_region (clf [.X, .X, .U]) [0, 1, 2] rfl (by kernel_rfl) (by decide) ?_
    refine TF.loadE (cs' := pgV noPg) rfl rfl (wantF_none rfl) (Try.ty27.s) rfl rfl (H.blk (k := 0) rfl) (pgV_len noPg_ok.len) (pgV_all noPg_ok.len) ?_
    refine TF.storeN (q := 1) (cs' := pgV noPg) H rfl rfl rfl (wantF_none rfl) (Try.ty27.s) rfl rfl (pgV_len noPg_ok.len) (pgV_one _) (by have h_ : (pgV noPg).length = 17 := (pgV_len noPg_ok.len); omega) (store_all (pgV_len noPg_ok.len)) ?_
    clear H
    intro w ho11 H
    replace H : Sat _ _ _ [_, _] := H
    refine TF.u (v := (.bool _)) rfl rfl (pr_assign rfl) ?_
    refine TF.nil (nx_then ?_)
    refine cw_ret (rt_then (finC2 (v := (.bool _)) (cs := pgV noPg) Try.results43 rfl rfl (Try.ty27.s) rfl rfl (H.blk (k := 1) rfl) (pgV_len noPg_ok.len) rfl ?_))
    rw [toldS_no (by assumption)]
    exact ⟨_, rfl, noPg_ok, (fun l h => by cases h), H.base⟩
  ·
    have hp10 := dT (nF hq10)
    refine cw_skip (nx_then ?_)
    refine cw_seq ?_
    refine cw_seq ?_
    -- region 5 page.go:103
    refine cw_region (clf [.U]) [0] rfl (by kernel_rfl) (by decide) ?_
    refine TF.u (v := (.int .i64 _)) rfl rfl (pr_move rfl) ?_
    refine TF.nil (nx_then ?_)
    refine cw_block ?_
    refine cw_loop (fun m_q f_q w => ∃ (g_ : Nat → Value) (i : Nat) (at_ : Nat) (l : List CL), m_q = 8 - i ∧ f_q = (upd (upd (upd (upd (upd g_ 1 (.slice A n c)) 4 (.pointer (some ⟨bk1, 0, none⟩))) 6 (.pointer (some ⟨bk3, 0, none⟩))) 7 (.int .i64 (at_ : Int))) 25 (.int .i64 (i : Int))) ∧ Sat [] w0 w [cBlk bk3 27 (pgV (PG.mk 0 l)), cBlk bk1 27 (pgV noPg)] ∧ (i ≤ 8) ∧ (TI t i at_ l)) (8 - 0) ?_ ?_
    ·
      exact ⟨_, 0, 10, noPg.cells, rfl, (cutS (cutS (cutS (cutS (cutS rfl rfl) rfl) rfl) rfl) rfl), H, Nat.zero_le _, TI.start t⟩
    ·
      clear H
      rintro m_ f_ w ⟨g_, i, at_, l, rfl, rfl, H, hi, hI⟩
      have hI_ := hI
      obtain ⟨hl8, hl20, hlo, hhi, _, _⟩ := hI_
      refine cw_seq ?_
      -- region 6 page.go:103
      refine cw_region (clf [.U]) [0] rfl (by kernel_rfl) (by decide) ?_
      refine TF.u (v := (.bool _)) rfl rfl (pr_lss rfl rfl) ?_
      refine TF.nil (nx_then ?_)
      refine cw_seq ?_
      refine cw_cond _ rfl rfl (fun hq13 => ?_) (fun hq13 => ?_)
      ·
        have hp13 := dT hq13
        refine cw_skip (nx_then ?_)
        refine cw_seq ?_
        refine cw_block ?_
        refine cw_seq ?_
        -- region 7 page.go:103
        refine cw_region (clf [.U, .U]) [0, 1] rfl (by kernel_rfl) (by decide) ?_
        refine TF.u (v := (.int .i64 _)) rfl rfl (pr_move rfl) ?_
        refine TF.u (v := (.int .i64 _)) rfl rfl (pr_assign rfl) ?_
        refine TF.nil (nx_then ?_)
        refine cw_seq ?_
        -- region 8 page.go:104
        refine cw_region (clf [.U, .U, .U, .U, .X, .U, .U]) [0, 1, 2, 3, 4, 5, 6] rfl (by kernel_rfl) (by decide) ?_
        have hbi := (t.getD (2 + i) 0).toNat_lt
        refine TF.u (v := (.slice _ _ _)) rfl rfl (pr_move rfl) ?_
        refine TF.u (v := (.int .i64 _)) rfl rfl (pr_move rfl) ?_
        refine TF.u (v := (.int .i64 _)) rfl rfl (pr_add rfl rfl (show _ = ((2 + i : Nat) : Int) from (IntWalk.i64_in _ (by omega)).trans (by omega))) ?_
        refine TF.idxB (hb.below H.base) rfl rfl (wantF_none rfl) Try.underlying34 (Try.ty5.s) rfl rfl (by omega) (by omega) ?_
        intro p14 hc15
        replace hc15 : World.cell? _ _ = some (Value.int .u8 (((_ : List UInt8).getD (2 + i) 0).toNat : Int)) := hc15
        refine TF.load (v := (.int .u8 _)) rfl rfl (wantF_none rfl) Try.underlying5 rfl rfl hc15 ?_
        refine TF.u (v := (.int .i64 _)) rfl rfl (pr_conv Try.underlying5 Try.underlying3 rfl (u8i _)) ?_
        refine TF.u (v := (.int .i64 _)) rfl rfl (pr_assign rfl) ?_
        refine TF.nil (nx_then ?_)
        refine cw_seq ?_
        refine cw_seq ?_
        -- region 9 page.go:105
        refine cw_region (clf [.U, .U]) [0, 1] rfl (by kernel_rfl) (by decide) ?_
        refine TF.u (v := (.int .i64 _)) rfl rfl (pr_move rfl) ?_
        refine TF.u (v := (.bool _)) rfl rfl (pr_eql rfl rfl) ?_
        refine TF.nil (nx_then ?_)
        refine cw_cond _ rfl rfl (fun hq17 => ?_) (fun hq17 => ?_)
        ·
          have hp17 := dT hq17
          refine cw_exit (ex_then (ex_here (nx_then ?_)))
          -- region 14 page.go:103
          refine cw_region (clf [.U, .U]) [0, 1] rfl (by kernel_rfl) (by decide) ?_
          have hp255 : ((t.getD (2 + i) 0).toNat : Int) = 255 := by assumption
          refine TF.u (v := (.int .i64 _)) rfl rfl (pr_add rfl rfl (IntWalk.i64_in _ (by omega))) ?_
          refine TF.u (v := (.int .i64 _)) rfl rfl (pr_move rfl) ?_
          refine TF.nil (nx_loop (m' := 8 - (i + 1)) (by omega) ?_)
          exact ⟨_, i + 1, at_, l, rfl, (cutS (cutS (cutS (cutS (cutS rfl rfl) rfl) rfl) rfl) rfl), H, by omega, hI.skip (by omega) (by omega) (u255 hp255)⟩
        ·
          have hp17 := dF hq17
          refine cw_skip (nx_then ?_)
          refine cw_seq ?_
          refine cw_seq ?_
          -- region 10 page.go:108
          refine cw_region (clf [.U, .U]) [0, 1] rfl (by kernel_rfl) (by decide) ?_
          have hp255 : ¬ ((t.getD (2 + i) 0).toNat : Int) = 255 := by assumption
          refine TF.u (v := (.int .i64 _)) rfl rfl (pr_move rfl) ?_
          refine TF.u (v := (.bool _)) rfl rfl (pr_gtr rfl rfl) ?_
          refine TF.nil (nx_then ?_)
          refine cw_cond _ rfl rfl (fun hq19 => ?_) (fun hq19 => ?_)
          ·
            have hp19 := dT hq19
            refine cw_seq ?_
            -- region 11 page.go:109
            refine cw_region (clf [.X, .X, .U]) [0, 1, 2] rfl (by kernel_rfl) (by decide) ?_
            refine TF.loadE (cs' := pgV (PG.mk 0 l)) rfl rfl (wantF_none rfl) (Try.ty27.s) rfl rfl (H.blk (k := 0) rfl) (pgV_len hI.pok.len) (pgV_all hI.pok.len) ?_
            refine TF.storeN (q := 1) (cs' := pgV (PG.mk 0 l)) H rfl rfl rfl (wantF_none rfl) (Try.ty27.s) rfl rfl (pgV_len hI.pok.len) (pgV_one _) (by have h_ : (pgV noPg).length = 17 := (pgV_len noPg_ok.len); omega) (store_all (pgV_len noPg_ok.len)) ?_
            clear H
            intro w ho20 H
            replace H : Sat _ _ _ [_, _] := H
            refine TF.u (v := (.bool _)) rfl rfl (pr_assign rfl) ?_
            refine TF.nil (nx_then ?_)
            refine cw_ret (rt_then (rt_block (rt_then (rt_then (rt_block (rt_then (finC2 (v := (.bool _)) (cs := pgV (PG.mk 0 l)) Try.results43 rfl rfl (Try.ty27.s) rfl rfl (H.blk (k := 1) rfl) (pgV_len hI.pok.len) rfl ?_)))))))
            rw [toldS_yes (by assumption), hI.big (by omega) (by omega) (u255n hp255) (by omega)]
            exact ⟨_, rfl, hI.pok, (fun l h => by cases h), H.base⟩
          ·
            have hp19 := dF hq19
            refine cw_skip (nx_then ?_)
            refine cw_seq ?_
            -- region 12 page.go:111
            refine cw_region (clf [.U, .U, .U, .U, .U, .U, .U, .X, .U, .U, .U, .X]) [0, 1, 2, 3, 4, 5, 6, 7, 8, 9, 10, 11] rfl (by kernel_rfl) (by decide) ?_
            refine TF.u (v := (.int .i64 _)) rfl rfl (pr_move rfl) ?_
            refine TF.u (v := (.slice _ _ _)) rfl rfl (pr_move rfl) ?_
            refine TF.u (v := (.int .i64 _)) rfl rfl (pr_move rfl) ?_
            refine TF.u (v := (.int .i64 _)) rfl rfl (pr_move rfl) ?_
            refine TF.u (v := (.int .i64 _)) rfl rfl (pr_move rfl) ?_
            refine TF.u (v := (.int .i64 _)) rfl rfl (pr_add rfl rfl (show _ = ((at_ + (t.getD (2 + i) 0).toNat : Nat) : Int) from (IntWalk.i64_in _ (by omega)).trans (by omega))) ?_
            refine TF.u (v := (.slice _ _ _)) rfl rfl (pr_cut (l := at_) (h := (at_ + (t.getD (2 + i) 0).toNat)) (mm := c) Try.underlying34 (Try.ty5.s) rfl (.inr ⟨_, _, rfl, rfl⟩) (.inr ⟨_, _, rfl, rfl⟩) (.inl ⟨rfl, rfl⟩) (by omega) (by omega) (by omega) (n' := (t.getD (2 + i) 0).toNat) (c' := (c - at_)) (by omega) (by omega)) ?_
            have hcut21 := RdB.cut (lo := at_) (hi := (at_ + (t.getD (2 + i) 0).toNat)) (m := c) (n' := (t.getD (2 + i) 0).toNat) (c' := (c - at_)) hb (by omega) (by omega) (by omega) (by omega) (by omega) (by omega)
            refine TF.tostr (hcut21.below H.base) rfl rfl (wantF_none rfl) Try.underlying34 Try.underlying5 Try.underlying9 rfl ?_
            refine TF.u (v := (.agg ⟨cellV (true, (t.drop at_).take (t.getD (2 + i) 0).toNat)⟩)) rfl rfl (pr_build (cs := cellV (true, (t.drop at_).take (t.getD (2 + i) 0).toNat)) Try.bld24 rfl rfl) ?_
            refine TF.u (v := (.pointer (some ⟨_, 1, none⟩))) rfl rfl (pr_field (o' := 1) Try.underlying27 rfl (Try.ty25.s) (by decide) rfl rfl) ?_
            refine TF.u (v := (.pointer (some ⟨_, _, none⟩))) rfl rfl (pr_idxA Try.underlying25 (Try.ty24.s) rfl rfl (by omega) (by omega)) ?_
            refine TF.storeN (q := 0) (cs' := pgV (PG.mk (PG.lsn (PG.mk 0 l)) ((PG.cells (PG.mk 0 l)).set i (true, (t.drop at_).take (t.getD (2 + i) 0).toNat)))) H rfl rfl rfl (wantF_none rfl) (Try.ty24.s) rfl rfl rfl (cellV_one _) (by have h_ : (pgV (PG.mk 0 l)).length = 17 := (pgV_len hI.pok.len); simp only [Int.toNat_natCast]; omega) (pgV_set (true, (t.drop at_).take (t.getD (2 + i) 0).toNat) hI.pok.len (by omega)) ?_
            clear H
            intro w ho22 H
            replace H : Sat _ _ _ [_, _] := H
            refine TF.nil (nx_then ?_)
            -- region 13 page.go:112
            refine cw_region (clf [.U, .U, .U, .U]) [0, 1, 2, 3] rfl (by kernel_rfl) (by decide) ?_
            refine TF.u (v := (.int .i64 _)) rfl rfl (pr_move rfl) ?_
            refine TF.u (v := (.int .i64 _)) rfl rfl (pr_move rfl) ?_
            refine TF.u (v := (.int .i64 _)) rfl rfl (pr_add rfl rfl (show _ = ((at_ + (t.getD (2 + i) 0).toNat : Nat) : Int) from (IntWalk.i64_in _ (by omega)).trans (by omega))) ?_
            refine TF.u (v := (.int .i64 _)) rfl rfl (pr_assign rfl) ?_
            refine TF.nil (nx_block (nx_then ?_))
            -- region 14 page.go:103
            refine cw_region (clf [.U, .U]) [0, 1] rfl (by kernel_rfl) (by decide) ?_
            skip
            refine TF.u (v := (.int .i64 _)) rfl rfl (pr_add rfl rfl (IntWalk.i64_in _ (by omega))) ?_
            refine TF.u (v := (.int .i64 _)) rfl rfl (pr_move rfl) ?_
            refine TF.nil (nx_loop (m' := 8 - (i + 1)) (by omega) ?_)
            exact ⟨_, i + 1, _, _, rfl, (cutS (cutS (cutS (cutS (cutS rfl rfl) rfl) rfl) rfl) rfl), H, by omega, hI.put (by omega) (by omega) (u255n hp255) (by omega)⟩
      ·
        have hp13 := dF hq13
        refine cw_exit (ex_then (ex_then (ex_here (nx_then ?_))))
        refine cw_seq ?_
        refine cw_seq ?_
        -- region 15 page.go:114
        refine cw_region (clf [.U, .U, .U, .U, .U]) [0, 1, 2, 3, 4] rfl (by kernel_rfl) (by decide) ?_
        obtain rfl : i = 8 := by omega
        refine TF.u (v := (.slice _ _ _)) rfl rfl (pr_move rfl) ?_
        refine TF.u (v := (.int .i64 _)) rfl rfl (pr_move rfl) ?_
        refine TF.u (v := (.slice _ _ _)) rfl rfl (pr_cut (l := at_) (h := n) (mm := c) Try.underlying34 (Try.ty5.s) rfl (.inr ⟨_, _, rfl, rfl⟩) (.inl ⟨rfl, rfl, rfl⟩) (.inl ⟨rfl, rfl⟩) (by omega) (by omega) (by omega) (n' := (n - at_)) (c' := (c - at_)) (by omega) (by omega)) ?_
        have hcut23 := RdB.cut (lo := at_) (hi := n) (m := c) (n' := (n - at_)) (c' := (c - at_)) hb (by omega) (by omega) (by omega) (by omega) (by omega) (by omega)
        refine TF.u (v := (.int .i64 _)) rfl rfl (pr_len rfl Try.underlying34 rfl) ?_
        refine TF.u (v := (.int .i64 _)) rfl rfl (pr_move rfl) ?_
        refine TF.nil (nx_then ?_)
        refine cw_block ?_
        refine cw_loop (fun m_q f_q w => ∃ (g_ : Nat → Value) (j : Nat), m_q = (n - at_) - j ∧ f_q = (upd (upd (upd (upd (upd g_ 4 (.pointer (some ⟨bk1, 0, none⟩))) 6 (.pointer (some ⟨bk3, 0, none⟩))) 56 (.slice (cutA A c at_ 1) (n - at_) (c - at_))) 57 (.int .i64 ((n - at_ : Nat) : Int))) 58 (.int .i64 (j : Int))) ∧ Sat [] w0 w [cBlk bk3 27 (pgV (PG.mk 0 l)), cBlk bk1 27 (pgV noPg)] ∧ (j ≤ n - at_) ∧ (∀ x ∈ (t.drop at_).take j, x = 0)) ((n - at_) - 0) ?_ ?_
        ·
          exact ⟨_, 0, rfl, (cutS (cutS (cutS (cutS (cutS rfl rfl) rfl) rfl) rfl) rfl), H, Nat.zero_le _, (fun x hx => by simp at hx)⟩
        ·
          clear H
          rintro m_ f_ w ⟨g_, j, rfl, rfl, H, hj, h0⟩
          refine cw_seq ?_
          -- region 16 page.go:114
          refine cw_region (clf [.U]) [0] rfl (by kernel_rfl) (by decide) ?_
          refine TF.u (v := (.bool _)) rfl rfl (pr_lss rfl rfl) ?_
          refine TF.nil (nx_then ?_)
          refine cw_seq ?_
          refine cw_cond _ rfl rfl (fun hq25 => ?_) (fun hq25 => ?_)
          ·
            have hp25 := dT hq25
            refine cw_skip (nx_then ?_)
            refine cw_seq ?_
            refine cw_block ?_
            refine cw_seq ?_
            -- region 17 page.go:114
            refine cw_region (clf [.U, .X, .U]) [0, 1, 2] rfl (by kernel_rfl) (by decide) ?_
            refine TF.idxB (hcut23.below H.base) rfl rfl (wantF_none rfl) Try.underlying34 (Try.ty5.s) rfl rfl (by omega) (by omega) ?_
            intro p26 hc27
            refine TF.load (v := (.int .u8 _)) rfl rfl (wantF_none rfl) Try.underlying5 rfl rfl hc27 ?_
            refine TF.u (v := (.int .u8 _)) rfl rfl (pr_assign rfl) ?_
            refine TF.nil (nx_then ?_)
            refine cw_seq ?_
            -- region 18 page.go:115
            refine cw_region (clf [.U, .U]) [0, 1] rfl (by kernel_rfl) (by decide) ?_
            refine TF.u (v := (.int .u8 _)) rfl rfl (pr_move rfl) ?_
            refine TF.u (v := (.bool _)) rfl rfl (pr_neq rfl rfl) ?_
            refine TF.nil (nx_then ?_)
            refine cw_cond _ rfl rfl (fun hq29 => ?_) (fun hq29 => ?_)
            ·
              have hp29 := dF (nT hq29)
              refine cw_seq ?_
              -- region 19 page.go:116
              refine cw_region (clf [.X, .X, .U]) [0, 1, 2] rfl (by kernel_rfl) (by decide) ?_
              have hpz : ¬ ((((t.drop at_).take (n - at_)).getD j 0).toNat : Int) = 0 := by assumption
              rw [List.take_of_length_le (by rw [List.length_drop]; omega)] at hpz
              refine TF.loadE (cs' := pgV (PG.mk 0 l)) rfl rfl (wantF_none rfl) (Try.ty27.s) rfl rfl (H.blk (k := 0) rfl) (pgV_len hI.pok.len) (pgV_all hI.pok.len) ?_
              refine TF.storeN (q := 1) (cs' := pgV (PG.mk 0 l)) H rfl rfl rfl (wantF_none rfl) (Try.ty27.s) rfl rfl (pgV_len hI.pok.len) (pgV_one _) (by have h_ : (pgV noPg).length = 17 := (pgV_len noPg_ok.len); omega) (store_all (pgV_len noPg_ok.len)) ?_
              clear H
              intro w ho30 H
              replace H : Sat _ _ _ [_, _] := H
              refine TF.u (v := (.bool _)) rfl rfl (pr_assign rfl) ?_
              refine TF.nil (nx_then ?_)
              refine cw_ret (rt_block (rt_then (rt_then (rt_block (rt_then (finC2 (v := (.bool _)) (cs := pgV (PG.mk 0 l)) Try.results43 rfl rfl (Try.ty27.s) rfl rfl (H.blk (k := 1) rfl) (pgV_len hI.pok.len) rfl ?_))))))
              rw [toldS_yes (by assumption), hI.fin, if_neg (not_all0 (j := j) (by rw [List.length_drop]; omega) (u0n hpz))]
              exact ⟨_, rfl, hI.pok, (fun l h => by cases h), H.base⟩
            ·
              have hp29 := dT (nF hq29)
              refine cw_skip (nx_block (nx_then ?_))
              -- region 20 page.go:114
              refine cw_region (clf [.U, .U]) [0, 1] rfl (by kernel_rfl) (by decide) ?_
              have hpz : ((((t.drop at_).take (n - at_)).getD j 0).toNat : Int) = 0 := by assumption
              rw [List.take_of_length_le (by rw [List.length_drop]; omega)] at hpz
              refine TF.u (v := (.int .i64 _)) rfl rfl (pr_add rfl rfl (IntWalk.i64_in _ (by omega))) ?_
              refine TF.u (v := (.int .i64 _)) rfl rfl (pr_move rfl) ?_
              refine TF.nil (nx_loop (m' := (n - at_) - (j + 1)) (by omega) ?_)
              exact ⟨_, j + 1, rfl, (cutS (cutS (cutS (cutS (cutS rfl rfl) rfl) rfl) rfl) rfl), H, by omega, all_snocD (by rw [List.length_drop]; omega) h0 (u0 hpz)⟩
          ·
            have hp25 := dF hq25
            refine cw_exit (ex_then (ex_then (ex_here (nx_then ?_))))
            refine cw_seq ?_
            -- region 21 page.go:119
            refine cw_region (clf [.X, .X, .U]) [0, 1, 2] rfl (by kernel_rfl) (by decide) ?_
            refine TF.loadE (cs' := pgV (PG.mk 0 l)) rfl rfl (wantF_none rfl) (Try.ty27.s) rfl rfl (H.blk (k := 0) rfl) (pgV_len hI.pok.len) (pgV_all hI.pok.len) ?_
            refine TF.storeN (q := 1) (cs' := pgV (PG.mk 0 l)) H rfl rfl rfl (wantF_none rfl) (Try.ty27.s) rfl rfl (pgV_len hI.pok.len) (pgV_one _) (by have h_ : (pgV noPg).length = 17 := (pgV_len noPg_ok.len); omega) (store_all (pgV_len noPg_ok.len)) ?_
            clear H
            intro w ho31 H
            replace H : Sat _ _ _ [_, _] := H
            refine TF.u (v := (.bool _)) rfl rfl (pr_assign rfl) ?_
            refine TF.nil (nx_then ?_)
            refine cw_ret (finC2 (v := (.bool _)) (cs := pgV (PG.mk 0 l)) Try.results43 rfl rfl (Try.ty27.s) rfl rfl (H.blk (k := 1) rfl) (pgV_len hI.pok.len) rfl ?_)
            rw [toldS_yes (by assumption), hI.fin, if_pos (all0 (take_all h0 (by rw [List.length_drop]; omega)))]
            exact ⟨_, rfl, hI.pok, (fun l h => by cases h; rfl), H.base⟩

theorem decode_ok (id : Int) (A : Option Addr) (n c : Nat) (b : List UInt8) (w0 : World) (hb : RdB w0 A n c b) (hn : n ≤ 140737488351232) (h1 : -9223372036854775808 ≤ id) (h2 : id ≤ 9223372036854775807) :
    Calls Try.prog 26 #[.int .i64 id, .slice A n c] w0 fun e w => e = .returned (.tuple #[.agg ⟨pgV (decS id b).1⟩, .int .i64 (decS id b).2]) ∧ Below w0.heap.size w0 w := by
  refine enter (args := [.int .i64 id, .slice A n c]) Try.func26 rfl Try.ntmps26 rfl ?_
  have H := Sat.start w0
  have hl := hb.length
  have hc := hb.cap
  refine cw_seq ?_
  -- region 0 page.go:72
  refine cw_region (clf [.X, .U]) [0, 1] rfl (by kernel_rfl) (by decide) ?_
  refine TF.alloc H rfl (Cx.xx rfl) (wantF_none rfl) (Try.ty27) rfl ?_
  clear H
  intro bk1 w hltbk1 hb2 H
  replace H : Sat _ _ _ (cBlk _ _ (pgV noPg) :: _) := H
  replace H : Sat _ _ _ [_] := H
  refine TF.u (v := (.int .i64 _)) rfl rfl (pr_assign rfl) ?_
  refine TF.nil (nx_then ?_)
  refine cw_seq ?_
  refine cw_block ?_
  refine cw_seq ?_
  -- region 1 page.go:74
  refine cw_region (clf [.U, .X, .U, .U]) [0, 1, 2, 3] rfl (by kernel_rfl) (by decide) ?_
  refine TF.u (v := (.int .i64 _)) rfl rfl (pr_move rfl) ?_
  refine TF.call (args := [(.int .i64 _)]) Try.fn41 rfl rfl (wantF_none rfl) rfl (number_ok_ _ _ (by omega) (by omega)) ?_
  rintro e_ w ⟨rfl, hb3⟩
  refine ⟨_, rfl, ?_⟩
  replace H := H.below hb3
  refine TF.u (v := (.bool _)) rfl rfl (pr_not rfl) ?_
  refine TF.u (v := (.bool _)) rfl rfl (pr_assign rfl) ?_
  refine TF.nil (nx_then ?_)
  refine cw_cond _ rfl rfl (fun hq5 => ?_) (fun hq5 => ?_)
  ·
    have hp5 := (nT hq5)
    refine cw_seq ?_
    -- region 2 page.go:75
    refine cw_region (clf [.U, .X, .U]) [0, 1, 2] rfl (by kernel_rfl) (by decide) ?_
    refine TF.u (v := (.agg ⟨pgV noPg⟩)) rfl rfl (pr_build (cs := pgV noPg) Try.bld27 rfl rfl) ?_
    refine TF.storeN (q := 0) (cs' := pgV noPg) H rfl rfl rfl (wantF_none rfl) (Try.ty27.s) rfl rfl (pgV_len noPg_ok.len) (pgV_one _) (by have h_ : (pgV noPg).length = 17 := (pgV_len noPg_ok.len); omega) (store_all (pgV_len noPg_ok.len)) ?_
    clear H
    intro w ho6 H
    replace H : Sat _ _ _ [_] := H
    refine TF.u (v := (.int .i64 _)) rfl rfl (pr_assign rfl) ?_
    refine TF.nil (nx_then ?_)
    refine cw_ret (rt_block (rt_then (finC2 (v := (.int .i64 _)) (cs := pgV noPg) Try.results26 rfl rfl (Try.ty27.s) rfl rfl (H.blk (k := 0) rfl) (pgV_len noPg_ok.len) rfl ?_)))
    rw [show decS id b = _ by rw [decS, if_pos (by assumption)]]
    exact ⟨rfl, H.base⟩
  ·
    have hp5 := (nF hq5)
    refine cw_seq ?_
    -- region 3 page.go:76
    refine cw_region (clf [.U, .U, .U, .U]) [0, 1, 2, 3] rfl (by kernel_rfl) (by decide) ?_
    have hnum : numberP id = true := by assumption
    refine TF.u (v := (.slice _ _ _)) rfl rfl (pr_move rfl) ?_
    refine TF.u (v := (.int .i64 _)) rfl rfl (pr_len rfl Try.underlying34 rfl) ?_
    refine TF.u (v := (.bool _)) rfl rfl (pr_lss rfl rfl) ?_
    refine TF.u (v := (.bool _)) rfl rfl (pr_assign rfl) ?_
    refine TF.nil (nx_then ?_)
    refine cw_cond _ rfl rfl (fun hq8 => ?_) (fun hq8 => ?_)
    ·
      have hp8 := dT hq8
      refine cw_seq ?_
      -- region 4 page.go:77
      refine cw_region (clf [.U, .X, .U]) [0, 1, 2] rfl (by kernel_rfl) (by decide) ?_
      refine TF.u (v := (.agg ⟨pgV noPg⟩)) rfl rfl (pr_build (cs := pgV noPg) Try.bld27 rfl rfl) ?_
      refine TF.storeN (q := 0) (cs' := pgV noPg) H rfl rfl rfl (wantF_none rfl) (Try.ty27.s) rfl rfl (pgV_len noPg_ok.len) (pgV_one _) (by have h_ : (pgV noPg).length = 17 := (pgV_len noPg_ok.len); omega) (store_all (pgV_len noPg_ok.len)) ?_
      clear H
      intro w ho9 H
      replace H : Sat _ _ _ [_] := H
      refine TF.u (v := (.int .i64 _)) rfl rfl (pr_assign rfl) ?_
      refine TF.nil (nx_then ?_)
      refine cw_ret (rt_block (rt_then (finC2 (v := (.int .i64 _)) (cs := pgV noPg) Try.results26 rfl rfl (Try.ty27.s) rfl rfl (H.blk (k := 0) rfl) (pgV_len noPg_ok.len) rfl ?_)))
      rw [show decS id b = _ by rw [decS, if_neg (by simp [hnum]), if_pos (by omega)]]
      exact ⟨rfl, H.base⟩
    ·
      have hp8 := dF hq8
      refine cw_seq ?_
      -- region 5 page.go:78
      refine cw_region (clf [.U, .U, .U, .U]) [0, 1, 2, 3] rfl (by kernel_rfl) (by decide) ?_
      refine TF.u (v := (.slice _ _ _)) rfl rfl (pr_move rfl) ?_
      refine TF.u (v := (.int .i64 _)) rfl rfl (pr_len rfl Try.underlying34 rfl) ?_
      refine TF.u (v := (.bool _)) rfl rfl (pr_gtr rfl rfl) ?_
      refine TF.u (v := (.bool _)) rfl rfl (pr_assign rfl) ?_
      refine TF.nil (nx_then ?_)
      refine cw_cond _ rfl rfl (fun hq11 => ?_) (fun hq11 => ?_)
      ·
        have hp11 := dT hq11
        refine cw_seq ?_
        -- region 6 page.go:79
        refine cw_region (clf [.U, .X, .U]) [0, 1, 2] rfl (by kernel_rfl) (by decide) ?_
        refine TF.u (v := (.agg ⟨pgV noPg⟩)) rfl rfl (pr_build (cs := pgV noPg) Try.bld27 rfl rfl) ?_
        refine TF.storeN (q := 0) (cs' := pgV noPg) H rfl rfl rfl (wantF_none rfl) (Try.ty27.s) rfl rfl (pgV_len noPg_ok.len) (pgV_one _) (by have h_ : (pgV noPg).length = 17 := (pgV_len noPg_ok.len); omega) (store_all (pgV_len noPg_ok.len)) ?_
        clear H
        intro w ho12 H
        replace H : Sat _ _ _ [_] := H
        refine TF.u (v := (.int .i64 _)) rfl rfl (pr_assign rfl) ?_
        refine TF.nil (nx_then ?_)
        refine cw_ret (rt_block (rt_then (finC2 (v := (.int .i64 _)) (cs := pgV noPg) Try.results26 rfl rfl (Try.ty27.s) rfl rfl (H.blk (k := 0) rfl) (pgV_len noPg_ok.len) rfl ?_)))
        rw [show decS id b = _ by rw [decS, if_neg (by simp [hnum]), if_neg (by omega), if_pos (by omega)]]
        exact ⟨rfl, H.base⟩
      ·
        have hp11 := dF hq11
        refine cw_seq ?_
        -- region 7 page.go:80
        refine cw_region (clf [.U, .X, .U]) [0, 1, 2] rfl (by kernel_rfl) (by decide) ?_
        refine TF.u (v := (.slice _ _ _)) rfl rfl (pr_move rfl) ?_
        refine TF.call (args := [(.slice _ _ _)]) Try.fn35 rfl rfl (wantF_none rfl) rfl (ptorn_ok _ _ _ _ _ (hb.below H.base)) ?_
        rintro e_ w ⟨rfl, hb13⟩
        refine ⟨_, rfl, ?_⟩
        replace H := H.below hb13
        refine TF.u (v := (.bool _)) rfl rfl (pr_assign rfl) ?_
        refine TF.nil (nx_then ?_)
        refine cw_cond _ rfl rfl (fun hq15 => ?_) (fun hq15 => ?_)
        ·
          have hp15 := hq15
          refine cw_seq ?_
          -- region 8 page.go:81
          refine cw_region (clf [.U, .X, .U]) [0, 1, 2] rfl (by kernel_rfl) (by decide) ?_
          refine TF.u (v := (.agg ⟨pgV noPg⟩)) rfl rfl (pr_build (cs := pgV noPg) Try.bld27 rfl rfl) ?_
          refine TF.storeN (q := 0) (cs' := pgV noPg) H rfl rfl rfl (wantF_none rfl) (Try.ty27.s) rfl rfl (pgV_len noPg_ok.len) (pgV_one _) (by have h_ : (pgV noPg).length = 17 := (pgV_len noPg_ok.len); omega) (store_all (pgV_len noPg_ok.len)) ?_
          clear H
          intro w ho16 H
          replace H : Sat _ _ _ [_] := H
          refine TF.u (v := (.int .i64 _)) rfl rfl (pr_assign rfl) ?_
          refine TF.nil (nx_then ?_)
          refine cw_ret (rt_block (rt_then (finC2 (v := (.int .i64 _)) (cs := pgV noPg) Try.results26 rfl rfl (Try.ty27.s) rfl rfl (H.blk (k := 0) rfl) (pgV_len noPg_ok.len) rfl ?_)))
          rw [show decS id b = _ by rw [decS, if_neg (by simp [hnum]), if_neg (by omega), if_neg (by omega), if_pos (by assumption)]]
          exact ⟨rfl, H.base⟩
        ·
          have hp15 := hq15
          refine cw_skip (nx_block (nx_then ?_))
          refine cw_seq ?_
          -- region 9 page.go:83
          refine cw_drawS H Try.wide_ (clf [.P, .U, .U, .X, .U, .U, .X, .U]) [1, 2, 4, 5, 0, 3, 6, 7] (by kernel_rfl) (by kernel_rfl) ?_
          clear H
          intro w hbr H hB
          have htorn : tornS b = false := by assumption
          have hbl : b.length = 256 := by omega
          have hml := mid_len hbl
          refine TF.u (v := (.slice _ _ _)) rfl rfl (pr_move rfl) ?_
          refine TF.u (v := (.slice _ _ _)) rfl rfl (pr_cut (l := 8) (h := 128) (mm := c) Try.underlying34 (Try.ty5.s) rfl (.inr ⟨_, _, rfl, rfl⟩) (.inr ⟨_, _, rfl, rfl⟩) (.inl ⟨rfl, rfl⟩) (by omega) (by omega) (by omega) (n' := 120) (c' := (c - 8)) (by omega) (by omega)) ?_
          have hcut17 := RdB.cut (lo := 8) (hi := 128) (m := c) (n' := 120) (c' := (c - 8)) hb (by omega) (by omega) (by omega) (by omega) (by omega) (by omega)
          refine TF.u (v := (.slice _ _ _)) rfl rfl (pr_move rfl) ?_
          refine TF.u (v := (.slice _ _ _)) rfl rfl (pr_cut (l := 136) (h := n) (mm := c) Try.underlying34 (Try.ty5.s) rfl (.inr ⟨_, _, rfl, rfl⟩) (.inl ⟨rfl, rfl, rfl⟩) (.inl ⟨rfl, rfl⟩) (by omega) (by omega) (by omega) (n' := (n - 136)) (c' := (c - 136)) (by omega) (by omega)) ?_
          have hcut18 := RdB.cut (lo := 136) (hi := n) (m := c) (n' := (n - 136)) (c' := (c - 136)) hb (by omega) (by omega) (by omega) (by omega) (by omega) (by omega)
          refine TF.make (nl := 0) (nc := 240) (z1 := undef) H rfl (Cx.re hB rfl) (wantF_none rfl) Try.underlying34 (Try.ty5) rfl rfl (by omega) (by omega) (by unfold maxLen; omega) ?_
          clear H
          intro bk19 w hltbk19 hb20 H
          replace hB := Below.refl w.heap.size w
          rw [made_u8] at H
          replace H := H.toOwn0 (q := 0) (sz := 1) (nc := 240) rfl (by simp [u8s_len]) (by unfold maxLen; omega)
          replace H : Sat _ _ _ [_, _] := H
          refine TF.append (q := 0) (v := (.slice _ _ _)) H rfl rfl rfl (wantF_none rfl) Try.underlying34 (Try.ty5) rfl Try.underlying34 (.inr ⟨_, rfl⟩) rfl rfl (Src.rdB (hcut17.below H.base)) (by unfold maxLen; first | omega | (simp only [List.length_append, List.length_cons, List.length_nil]; omega)) (by first | omega | (simp only [List.length_append, List.length_cons, List.length_nil]; omega)) ?_
          clear H
          intro Abk19_21 cbk19_21 w ho21 H
          replace H : Sat _ _ _ [_, _] := H
          rw [List.nil_append] at H
          refine TF.append (q := 0) (v := (.slice _ _ _)) H rfl rfl rfl (wantF_none rfl) Try.underlying34 (Try.ty5) rfl Try.underlying34 (.inr ⟨_, rfl⟩) rfl rfl (Src.rdB (hcut18.below H.base)) (by unfold maxLen; first | omega | (simp only [List.length_append, List.length_cons, List.length_nil]; omega)) (by first | omega | (simp only [List.length_append, List.length_cons, List.length_nil]; omega)) ?_
          clear H
          intro Abk19_22 cbk19_22 w ho22 H
          replace H : Sat _ _ _ [_, _] := H
          rw [← u8s_app] at H
          refine TF.u (v := (.slice _ _ _)) rfl rfl (pr_assign rfl) ?_
          rw [show (b.drop 8).take 120 ++ (b.drop 136).take (n - 136) = midS b by rw [show n - 136 = 120 by omega, mid_cut hbl]] at H
          clear hB
          refine TF.nil (nx_then ?_)
          refine cw_seq ?_
          -- region 10 page.go:84
          refine cw_region (clf [.U, .X, .U, .U, .U, .U, .U]) [0, 1, 2, 3, 4, 5, 6] rfl (by kernel_rfl) (by decide) ?_
          refine TF.u (v := (.slice _ _ _)) rfl rfl (pr_move rfl) ?_
          refine TF.call (args := [(.slice _ _ _)]) Try.fn42 rfl rfl (wantF_none rfl) rfl (open_ok _ _ _ _ _ (H.rd (k := 0) rfl) (by first | omega | (simp only [List.length_append]; omega))) ?_
          rintro e_ w ⟨A23, n23, c23, rfl, hn23⟩
          refine ⟨_, rfl, ?_⟩
          replace H := H.newS hn23
          refine TF.u (v := (.tuple _)) rfl rfl (pr_move rfl) ?_
          refine TF.u (v := (.slice _ _ _)) rfl rfl (pr_extract (vs := _) rfl rfl) ?_
          refine TF.u (v := (.int .i64 _)) rfl rfl (pr_extract (vs := _) rfl rfl) ?_
          refine TF.u (v := (.slice _ _ _)) rfl rfl (pr_assign rfl) ?_
          refine TF.u (v := (.int .i64 _)) rfl rfl (pr_assign rfl) ?_
          refine TF.nil (nx_then ?_)
          refine cw_seq ?_
          refine cw_seq ?_
          -- region 11 page.go:85
          refine cw_region (clf [.U, .U]) [0, 1] rfl (by kernel_rfl) (by decide) ?_
          refine TF.u (v := (.int .i64 _)) rfl rfl (pr_move rfl) ?_
          refine TF.u (v := (.bool _)) rfl rfl (pr_neq rfl rfl) ?_
          refine TF.nil (nx_then ?_)
          refine cw_cond _ rfl rfl (fun hq26 => ?_) (fun hq26 => ?_)
          ·
            have hp26 := dF (nT hq26)
            refine cw_seq ?_
            -- region 12 page.go:86
            refine cw_region (clf [.U, .U, .X, .U]) [0, 1, 2, 3] rfl (by kernel_rfl) (by decide) ?_
            have hopen : (openS (midS b)).2 ≠ 0 := by assumption
            refine TF.u (v := (.agg ⟨pgV noPg⟩)) rfl rfl (pr_build (cs := pgV noPg) Try.bld27 rfl rfl) ?_
            refine TF.u (v := (.int .i64 _)) rfl rfl (pr_move rfl) ?_
            refine TF.storeN (q := 2) (cs' := pgV noPg) H rfl rfl rfl (wantF_none rfl) (Try.ty27.s) rfl rfl (pgV_len noPg_ok.len) (pgV_one _) (by have h_ : (pgV noPg).length = 17 := (pgV_len noPg_ok.len); omega) (store_all (pgV_len noPg_ok.len)) ?_
            clear H
            intro w ho27 H
            replace H : Sat _ _ _ [_, _, _] := H
            refine TF.u (v := (.int .i64 _)) rfl rfl (pr_assign rfl) ?_
            refine TF.nil (nx_then ?_)
            refine cw_ret (rt_then (finC2 (v := (.int .i64 _)) (cs := pgV noPg) Try.results26 rfl rfl (Try.ty27.s) rfl rfl (H.blk (k := 2) rfl) (pgV_len noPg_ok.len) rfl ?_))
            rw [show decS id b = _ by rw [decS, if_neg (by simp [hnum]), if_neg (by omega), if_neg (by omega), if_neg (by simp [htorn]), if_pos hopen]]
            exact ⟨rfl, H.base⟩
          ·
            have hp26 := dT (nF hq26)
            refine cw_skip (nx_then ?_)
            refine cw_seq ?_
            -- region 13 page.go:88
            refine cw_region (clf [.U, .U, .X, .U, .U, .U, .X, .X, .U]) [0, 1, 2, 3, 4, 5, 6, 7, 8] rfl (by kernel_rfl) (by decide) ?_
            have hopen : (openS (midS b)).2 = 0 := by omega
            have hol : (openS (midS b)).1.length = 236 := openS_len hml hopen
            have hon := (H.rdB (k := 0) rfl).length
            refine TF.u (v := (.int .i64 _)) rfl rfl (pr_move rfl) ?_
            refine TF.u (v := (.slice _ _ _)) rfl rfl (pr_move rfl) ?_
            refine TF.call (args := [(.int .i64 _), (.slice _ _ _)]) Try.fn43 rfl rfl (wantF_none rfl) rfl (told_ok _ _ _ _ _ _ (H.rd (k := 0) rfl) (by omega) (by omega) (by omega)) ?_
            rintro e_ w ⟨p28, rfl, okp28, htl28, hb28⟩
            refine ⟨_, rfl, ?_⟩
            replace H := H.below hb28
            refine TF.u (v := (.tuple _)) rfl rfl (pr_move rfl) ?_
            refine TF.u (v := (.agg ⟨pgV p28⟩)) rfl rfl (pr_extract (vs := _) rfl rfl) ?_
            refine TF.u (v := (.bool _)) rfl rfl (pr_extract (vs := _) rfl rfl) ?_
            refine TF.alloc H rfl (Cx.xx rfl) (wantF_none rfl) (Try.ty27) rfl ?_
            clear H
            intro bk30 w hltbk30 hb31 H
            replace H : Sat _ _ _ (cBlk _ _ (pgV noPg) :: _) := H
            replace H : Sat _ _ _ [_, _, _, _] := H
            refine TF.storeN (q := 0) (cs' := pgV p28) H rfl rfl rfl (wantF_none rfl) (Try.ty27.s) rfl rfl (pgV_len okp28.len) (pgV_one _) (by have h_ : (pgV noPg).length = 17 := (pgV_len noPg_ok.len); omega) (store_all (pgV_len noPg_ok.len)) ?_
            clear H
            intro w ho32 H
            replace H : Sat _ _ _ [_, _, _, _] := H
            refine TF.u (v := (.bool _)) rfl rfl (pr_assign rfl) ?_
            refine TF.nil (nx_then ?_)
            refine cw_seq ?_
            -- region 14 page.go:89
            refine cw_region (clf [.U, .X, .U, .U, .U, .U, .X]) [0, 1, 2, 3, 4, 5, 6] rfl (by kernel_rfl) (by decide) ?_
            skip
            refine TF.u (v := (.slice _ _ _)) rfl rfl (pr_move rfl) ?_
            refine TF.call (args := [(.slice _ _ _)]) Try.fn32 rfl rfl (wantF_none rfl) rfl (pstamp_ok _ _ _ _ _ (hb.below H.base) (by omega)) ?_
            rintro e_ w ⟨rfl, hb33⟩
            refine ⟨_, rfl, ?_⟩
            replace H := H.below hb33
            refine TF.u (v := (.tuple _)) rfl rfl (pr_move rfl) ?_
            refine TF.u (v := (.int .u64 _)) rfl rfl (pr_extract (vs := _) rfl rfl) ?_
            refine TF.u (v := (.bool _)) rfl rfl (pr_extract (vs := _) rfl rfl) ?_
            refine TF.u (v := (.pointer (some ⟨_, 0, none⟩))) rfl rfl (pr_field (o' := 0) Try.underlying27 rfl (Try.ty22.s) (by decide) rfl rfl) ?_
            refine TF.store (v := (.int .u64 _)) (q := 0) H rfl rfl rfl (wantF_none rfl) (Try.ty22.s) rfl rfl rfl rfl ?_
            clear H
            intro w ho35 H
            replace H : Sat _ _ _ [_, _, _, _] := H
            replace H : Sat _ _ _ [cBlk _ _ (pgV (PG.mk (stampS b).1 p28.cells)), _, _, _] := H
            refine TF.nil (nx_then ?_)
            refine cw_seq ?_
            refine cw_seq ?_
            -- region 15 page.go:90
            refine cw_region (clf [.U, .U, .U, .U, .X, .U, .U]) [0, 1, 2, 3, 4, 5, 6] rfl (by kernel_rfl) (by decide) ?_
            refine TF.u (v := (.bool _)) rfl rfl (pr_move rfl) ?_
            refine TF.u (v := (.bool _)) rfl rfl (pr_not rfl) ?_
            refine TF.u (v := (.bool _)) rfl rfl (pr_move rfl) ?_
            refine TF.split (dj := 59) rfl (fun hq36 => ?_) (fun hq36 => ?_)
            ·
              have hp36 := (nT hq36)
              refine TF.skip rfl (wantF_no rfl rfl rfl (bnF (nT hq36))) ?_
              refine TF.skip rfl (wantF_no rfl rfl rfl (bnF (nT hq36))) ?_
              refine TF.skip rfl (wantF_no rfl rfl rfl (bnF (nT hq36))) ?_
              refine TF.u (v := (.bool _)) rfl rfl (pr_pickT rfl (bnF (nT hq36)) rfl) ?_
              refine TF.nil (nx_then ?_)
              refine cw_condT (t := _) rfl rfl rfl ?_
              refine cw_seq ?_
              -- region 16 page.go:91
              refine cw_region (clf [.U, .X, .U]) [0, 1, 2] rfl (by kernel_rfl) (by decide) ?_
              refine TF.u (v := (.agg ⟨pgV noPg⟩)) rfl rfl (pr_build (cs := pgV noPg) Try.bld27 rfl rfl) ?_
              refine TF.storeN (q := 3) (cs' := pgV noPg) H rfl rfl rfl (wantF_none rfl) (Try.ty27.s) rfl rfl (pgV_len noPg_ok.len) (pgV_one _) (by have h_ : (pgV noPg).length = 17 := (pgV_len noPg_ok.len); omega) (store_all (pgV_len noPg_ok.len)) ?_
              clear H
              intro w ho37 H
              replace H : Sat _ _ _ [_, _, _, _] := H
              refine TF.u (v := (.int .i64 _)) rfl rfl (pr_assign rfl) ?_
              refine TF.nil (nx_then ?_)
              refine cw_ret (rt_then (finC2 (v := (.int .i64 _)) (cs := pgV noPg) Try.results26 rfl rfl (Try.ty27.s) rfl rfl (H.blk (k := 3) rfl) (pgV_len noPg_ok.len) rfl ?_))
              have hd : decS id b = (noPg, 2) := by
                rw [decS, if_neg (by simp [hnum]), if_neg (by omega), if_neg (by omega), if_neg (by simp [htorn]), if_neg (by simp [hopen])]
                cases htd : toldS id (openS (midS b)).1 with
                | none => rfl
                | some l =>
                  first
                  | (exfalso; have h_ : (toldS id (openS (midS b)).1).isSome = false := by assumption
                     rw [htd] at h_; cases h_)
                  | (simp only; rw [if_neg (by omega)])
              rw [hd]
              exact ⟨rfl, H.base⟩
            ·
              have hp36 := (nF hq36)
              refine TF.ug (v := (.pointer (some ⟨_, 0, none⟩))) rfl rfl (wantF_yes rfl rfl rfl (bnT (nF hq36))) (pr_field (o' := 0) Try.underlying27 rfl (Try.ty22.s) (by decide) rfl rfl) ?_
              refine TF.load (v := (.int .u64 ((stampS b).1 : Int))) rfl rfl (wantF_yes rfl rfl rfl (bnT (nF hq36))) Try.underlying22 rfl rfl ((H.blk (k := 0) rfl).at_ rfl) ?_
              refine TF.ug (v := (.bool _)) rfl rfl (wantF_yes rfl rfl rfl (bnT (nF hq36))) (pr_gtr rfl rfl) ?_
              refine TF.u (v := (.bool _)) rfl rfl (pr_pickF rfl (bnT (nF hq36)) rfl) ?_
              refine TF.nil (nx_then ?_)
              refine cw_cond _ rfl rfl (fun hq39 => ?_) (fun hq39 => ?_)
              ·
                have hp39 := dT hq39
                refine cw_seq ?_
                -- region 16 page.go:91
                refine cw_region (clf [.U, .X, .U]) [0, 1, 2] rfl (by kernel_rfl) (by decide) ?_
                refine TF.u (v := (.agg ⟨pgV noPg⟩)) rfl rfl (pr_build (cs := pgV noPg) Try.bld27 rfl rfl) ?_
                refine TF.storeN (q := 3) (cs' := pgV noPg) H rfl rfl rfl (wantF_none rfl) (Try.ty27.s) rfl rfl (pgV_len noPg_ok.len) (pgV_one _) (by have h_ : (pgV noPg).length = 17 := (pgV_len noPg_ok.len); omega) (store_all (pgV_len noPg_ok.len)) ?_
                clear H
                intro w ho40 H
                replace H : Sat _ _ _ [_, _, _, _] := H
                refine TF.u (v := (.int .i64 _)) rfl rfl (pr_assign rfl) ?_
                refine TF.nil (nx_then ?_)
                refine cw_ret (rt_then (finC2 (v := (.int .i64 _)) (cs := pgV noPg) Try.results26 rfl rfl (Try.ty27.s) rfl rfl (H.blk (k := 3) rfl) (pgV_len noPg_ok.len) rfl ?_))
                have hd : decS id b = (noPg, 2) := by
                  rw [decS, if_neg (by simp [hnum]), if_neg (by omega), if_neg (by omega), if_neg (by simp [htorn]), if_neg (by simp [hopen])]
                  cases htd : toldS id (openS (midS b)).1 with
                  | none => rfl
                  | some l =>
                    first
                    | (exfalso; have h_ : (toldS id (openS (midS b)).1).isSome = false := by assumption
                       rw [htd] at h_; cases h_)
                    | (simp only; rw [if_neg (by omega)])
                rw [hd]
                exact ⟨rfl, H.base⟩
              ·
                have hp39 := dF hq39
                refine cw_skip (nx_then ?_)
                refine cw_seq ?_
                -- region 17 page.go:93
                refine cw_region (clf [.X, .X, .U]) [0, 1, 2] rfl (by kernel_rfl) (by decide) ?_
                refine TF.loadE (cs' := pgV (PG.mk (stampS b).1 p28.cells)) rfl rfl (wantF_none rfl) (Try.ty27.s) rfl rfl (H.blk (k := 0) rfl) (pgV_len (POk.setLsn okp28 (stampS_lt b)).len) (pgV_all (POk.setLsn okp28 (stampS_lt b)).len) ?_
                refine TF.storeN (q := 3) (cs' := pgV (PG.mk (stampS b).1 p28.cells)) H rfl rfl rfl (wantF_none rfl) (Try.ty27.s) rfl rfl (pgV_len (POk.setLsn okp28 (stampS_lt b)).len) (pgV_one _) (by have h_ : (pgV noPg).length = 17 := (pgV_len noPg_ok.len); omega) (store_all (pgV_len noPg_ok.len)) ?_
                clear H
                intro w ho41 H
                replace H : Sat _ _ _ [_, _, _, _] := H
                refine TF.u (v := (.int .i64 _)) rfl rfl (pr_assign rfl) ?_
                refine TF.nil (nx_then ?_)
                refine cw_ret (finC2 (v := (.int .i64 _)) (cs := pgV (PG.mk (stampS b).1 p28.cells)) Try.results26 rfl rfl (Try.ty27.s) rfl rfl (H.blk (k := 3) rfl) (pgV_len (POk.setLsn okp28 (stampS_lt b)).len) rfl ?_)
                cases htd : toldS id (openS (midS b)).1 with
                | none => have h_ : (toldS id (openS (midS b)).1).isSome = true := by assumption
                          rw [htd] at h_; cases h_
                | some l =>
                  obtain rfl := htl28 l htd
                  have hd : decS id b = (⟨(stampS b).1, l⟩, 0) := by
                    rw [decS, if_neg (by simp [hnum]), if_neg (by omega), if_neg (by omega), if_neg (by simp [htorn]), if_neg (by simp [hopen])]
                    simp only [htd]
                    rw [if_pos (by omega)]
                  rw [hd]
                  exact ⟨rfl, H.base⟩

theorem rtale_ok (id : Nat) (p : PG) (ok : POk p) (w0 : World) (hid : id < 32) (hr : rightP p = true) :
    Calls Try.prog 47 #[.int .i64 (id : Int), .agg ⟨pgV p⟩] w0 fun e w => e = .returned (T (taleS id p)) ∧ Below w0.heap.size w0 w := by
  refine enter (args := [.int .i64 (id : Int), .agg ⟨pgV p⟩]) Try.func47 rfl Try.ntmps47 rfl ?_
  have H := Sat.start w0
  refine cw_seq ?_
  -- region 0 ref.go:24
  refine cw_region (clf [.X, .U]) [0, 1] rfl (by kernel_rfl) (by decide) ?_
  refine TF.box (v := (.agg ⟨pgV p⟩)) H rfl (Cx.xx rfl) (wantF_none rfl) rfl rfl ?_
  clear H
  intro bk1 w hltbk1 hb2 H
  refine TF.u (v := (T _)) rfl rfl (pr_assign rfl) ?_
  refine TF.nil (nx_then ?_)
  refine cw_seq ?_
  -- region 1 ref.go:25
  refine cw_region (clf [.U, .U, .X, .U]) [0, 1, 2, 3] rfl (by kernel_rfl) (by decide) ?_
  refine TF.u (v := (.int .i64 _)) rfl rfl (pr_move rfl) ?_
  refine TF.u (v := (.int .u64 _)) rfl rfl (pr_conv Try.underlying3 Try.underlying22 rfl (IntWalk.u64_in _ (by omega))) ?_
  refine TF.call (args := [(.int .i64 _), (.int .u64 _)]) Try.fn46 rfl rfl (wantF_none rfl) rfl (number_ok 2 _ _ (by omega) (by omega)) ?_
  rintro e_ w ⟨rfl, hb3⟩
  refine ⟨_, rfl, ?_⟩
  replace H := H.below hb3
  refine TF.u (v := (T _)) rfl rfl (pr_assign rfl) ?_
  refine TF.nil (nx_then ?_)
  refine cw_seq ?_
  -- region 2 ref.go:26
  refine cw_region (clf [.U]) [0] rfl (by kernel_rfl) (by decide) ?_
  refine TF.u (v := (T _)) rfl rfl (pr_assign rfl) ?_
  refine TF.nil (nx_then ?_)
  refine cw_seq ?_
  refine cw_seq ?_
  -- region 3 ref.go:27
  refine cw_region (clf [.U]) [0] rfl (by kernel_rfl) (by decide) ?_
  refine TF.u (v := (.int .i64 _)) rfl rfl (pr_assign rfl) ?_
  refine TF.nil (nx_then ?_)
  refine cw_block ?_
  refine cw_loop (fun m_q f_q w => ∃ (g_ : Nat → Value) (i : Nat), m_q = 8 - i ∧ f_q = (upd (upd (upd (upd g_ 3 (.pointer (some ⟨bk1, 0, none⟩))) 5 (T (be 2 id ++ lensB (p.cells.take i)))) 6 (T (valsB (p.cells.take i)))) 7 (.int .i64 (i : Int))) ∧ Sat [] w0 w [cBlk bk1 27 (pgV p)] ∧ (i ≤ 8)) (8 - 0) ?_ ?_
  ·
    exact ⟨_, 0, rfl, (cutS (cutS (cutS (cutS rfl rfl) (by simp [lensB]; rfl)) rfl) rfl), H, Nat.zero_le _⟩
  ·
    clear H
    rintro m_ f_ w ⟨g_, i, rfl, rfl, H, hi⟩
    have hvl := valsB_take_len hr i
    have hll : (be 2 id ++ lensB (p.cells.take i)).length ≤ 10 := by rw [List.length_append, be_len, lensB_len, List.length_take]; omega
    refine cw_seq ?_
    refine cw_seq ?_
    -- region 4 ref.go:27
    refine cw_region (clf [.U, .U]) [0, 1] rfl (by kernel_rfl) (by decide) ?_
    refine TF.u (v := (.int .i64 _)) rfl rfl (pr_move rfl) ?_
    refine TF.u (v := (.bool _)) rfl rfl (pr_lss rfl rfl) ?_
    refine TF.nil (nx_then ?_)
    refine cw_cond _ rfl rfl (fun hq5 => ?_) (fun hq5 => ?_)
    ·
      have hp5 := dT hq5
      refine cw_skip (nx_then ?_)
      refine cw_seq ?_
      refine cw_block ?_
      refine cw_seq ?_
      -- region 6 ref.go:28
      refine cw_region (clf [.U, .U, .U, .U, .X]) [0, 1, 2, 3, 4] rfl (by kernel_rfl) (by decide) ?_
      refine TF.u (v := (.int .i64 _)) rfl rfl (pr_move rfl) ?_
      refine TF.u (v := (.pointer (some ⟨_, 1, none⟩))) rfl rfl (pr_field (o' := 1) Try.underlying27 rfl (Try.ty25.s) (by decide) rfl rfl) ?_
      obtain ⟨o6, ho6⟩ : ∃ o, p.cells[i]? = some o := ⟨_, List.getElem?_eq_getElem (by rw [ok.len]; omega)⟩
      obtain ⟨hk1, hk2⟩ := (rightP_spec hr).1 o6 (List.mem_of_getElem? ho6)
      refine TF.u (v := (.pointer (some ⟨_, _, none⟩))) rfl rfl (pr_idxA Try.underlying25 (Try.ty24.s) rfl rfl (by omega) (by omega)) ?_
      refine TF.u (v := (.pointer (some ⟨_, _, none⟩))) rfl rfl (pr_field (o' := _) Try.underlying24 rfl (Try.ty4.s) (by decide) rfl rfl) ?_
      refine TF.load (v := (.bool o6.1)) rfl rfl (wantF_none rfl) Try.underlying4 rfl rfl ((H.blk (k := 0) rfl).at_ (pg_at0 ho6)) ?_
      refine TF.nil (nx_then ?_)
      refine cw_cond _ rfl rfl (fun hq9 => ?_) (fun hq9 => ?_)
      ·
        have hp9 := hq9
        refine cw_seq ?_
        -- region 7 ref.go:29
        refine cw_region (clf [.U, .U, .U, .U, .U, .X, .U, .U, .X, .U, .U]) [0, 1, 2, 3, 4, 5, 6, 7, 8, 9, 10] rfl (by kernel_rfl) (by decide) ?_
        skip
        refine TF.u (v := (T _)) rfl rfl (pr_move rfl) ?_
        refine TF.u (v := (.int .i64 _)) rfl rfl (pr_move rfl) ?_
        refine TF.u (v := (.pointer (some ⟨_, 1, none⟩))) rfl rfl (pr_field (o' := 1) Try.underlying27 rfl (Try.ty25.s) (by decide) rfl rfl) ?_
        refine TF.u (v := (.pointer (some ⟨_, _, none⟩))) rfl rfl (pr_idxA Try.underlying25 (Try.ty24.s) rfl rfl (by omega) (by omega)) ?_
        refine TF.u (v := (.pointer (some ⟨_, _, none⟩))) rfl rfl (pr_field (o' := _) Try.underlying24 rfl (Try.ty9.s) (by decide) rfl rfl) ?_
        refine TF.load (v := (T o6.2)) rfl rfl (wantF_none rfl) Try.underlying9 rfl rfl ((H.blk (k := 0) rfl).at_ (pg_at1 ho6)) ?_
        refine TF.u (v := (.int .i64 _)) rfl rfl (pr_slen rfl Try.underlying9 rfl) ?_
        refine TF.u (v := (.int .u64 _)) rfl rfl (pr_conv Try.underlying3 Try.underlying22 rfl (IntWalk.u64_in _ (by omega))) ?_
        refine TF.call (args := [(.int .i64 _), (.int .u64 _)]) Try.fn46 rfl rfl (wantF_none rfl) rfl (number_ok 1 _ _ (by omega) (by omega)) ?_
        rintro e_ w ⟨rfl, hb10⟩
        refine ⟨_, rfl, ?_⟩
        replace H := H.below hb10
        refine TF.u (v := (T _)) rfl rfl (pr_sadd rfl rfl (by simp only [be_len]; omega)) ?_
        refine TF.u (v := (T _)) rfl rfl (pr_assign rfl) ?_
        refine TF.nil (nx_then ?_)
        -- region 8 ref.go:30
        refine cw_region (clf [.U, .U, .U, .U, .U, .X, .U, .U]) [0, 1, 2, 3, 4, 5, 6, 7] rfl (by kernel_rfl) (by decide) ?_
        refine TF.u (v := (T _)) rfl rfl (pr_move rfl) ?_
        refine TF.u (v := (.int .i64 _)) rfl rfl (pr_move rfl) ?_
        refine TF.u (v := (.pointer (some ⟨_, 1, none⟩))) rfl rfl (pr_field (o' := 1) Try.underlying27 rfl (Try.ty25.s) (by decide) rfl rfl) ?_
        refine TF.u (v := (.pointer (some ⟨_, _, none⟩))) rfl rfl (pr_idxA Try.underlying25 (Try.ty24.s) rfl rfl (by omega) (by omega)) ?_
        refine TF.u (v := (.pointer (some ⟨_, _, none⟩))) rfl rfl (pr_field (o' := _) Try.underlying24 rfl (Try.ty9.s) (by decide) rfl rfl) ?_
        refine TF.load (v := (T o6.2)) rfl rfl (wantF_none rfl) Try.underlying9 rfl rfl ((H.blk (k := 0) rfl).at_ (pg_at1 ho6)) ?_
        refine TF.u (v := (T _)) rfl rfl (pr_sadd rfl rfl (by omega)) ?_
        refine TF.u (v := (T _)) rfl rfl (pr_assign rfl) ?_
        refine TF.nil (nx_block (nx_then ?_))
        -- region 5 ref.go:27
        refine cw_region (clf [.U, .U, .U]) [0, 1, 2] rfl (by kernel_rfl) (by decide) ?_
        refine TF.u (v := (.int .i64 _)) rfl rfl (pr_move rfl) ?_
        refine TF.u (v := (.int .i64 _)) rfl rfl (pr_add rfl rfl (IntWalk.i64_in _ (by omega))) ?_
        refine TF.u (v := (.int .i64 _)) rfl rfl (pr_assign rfl) ?_
        have hu : o6.1 = true := by assumption
        refine TF.nil (nx_loop (m' := 8 - (i + 1)) (by omega) ?_)
        exact ⟨_, i + 1, rfl, (cutS (cutS (cutS (cutS rfl rfl) (by rw [lensB_snoc ho6, lenB_T hu, ← List.append_assoc, be1]; rfl)) (by rw [valsB_snoc ho6, valB_T hu]; rfl)) rfl), H, by omega⟩
      ·
        have hp9 := hq9
        -- region 9 ref.go:32
        refine cw_region (clf [.U, .X, .U, .U]) [0, 1, 2, 3] rfl (by kernel_rfl) (by decide) ?_
        refine TF.u (v := (T _)) rfl rfl (pr_move rfl) ?_
        refine TF.call (args := [(.int .i64 _), (.int .u64 _)]) Try.fn46 rfl rfl (wantF_none rfl) rfl (number_ok 1 255 _ (by omega) (by omega)) ?_
        rintro e_ w ⟨rfl, hb11⟩
        refine ⟨_, rfl, ?_⟩
        replace H := H.below hb11
        refine TF.u (v := (T _)) rfl rfl (pr_sadd rfl rfl (by simp only [be_len]; omega)) ?_
        refine TF.u (v := (T _)) rfl rfl (pr_assign rfl) ?_
        refine TF.nil (nx_block (nx_then ?_))
        -- region 5 ref.go:27
        refine cw_region (clf [.U, .U, .U]) [0, 1, 2] rfl (by kernel_rfl) (by decide) ?_
        refine TF.u (v := (.int .i64 _)) rfl rfl (pr_move rfl) ?_
        refine TF.u (v := (.int .i64 _)) rfl rfl (pr_add rfl rfl (IntWalk.i64_in _ (by omega))) ?_
        refine TF.u (v := (.int .i64 _)) rfl rfl (pr_assign rfl) ?_
        have hu : o6.1 = false := by assumption
        refine TF.nil (nx_loop (m' := 8 - (i + 1)) (by omega) ?_)
        exact ⟨_, i + 1, rfl, (cutS (cutS (cutS (cutS rfl rfl) (by rw [lensB_snoc ho6, lenB_F hu, ← List.append_assoc]; rfl)) (by rw [valsB_snoc ho6, valB_F hu, List.append_nil]; rfl)) rfl), H, by omega⟩
    ·
      have hp5 := dF hq5
      refine cw_exit (ex_then (ex_then (ex_here (nx_then ?_))))
      refine cw_seq ?_
      -- region 10 ref.go:35
      refine cw_region (clf [.U, .U, .U, .U]) [0, 1, 2, 3] rfl (by kernel_rfl) (by decide) ?_
      obtain rfl : i = 8 := by omega
      rw [List.take_of_length_le (show p.cells.length ≤ 8 by have := ok.len; omega)]
      obtain ⟨hcl1, hcl2⟩ := core_len (id := id) ok.len fun c hc => ((rightP_spec hr).1 c hc).1
      have hcc : be 2 id ++ lensB p.cells ++ valsB p.cells = core id p.cells := rfl
      refine TF.u (v := (T _)) rfl rfl (pr_move rfl) ?_
      refine TF.u (v := (T _)) rfl rfl (pr_move rfl) ?_
      refine TF.u (v := (T _)) rfl rfl (pr_sadd rfl rfl (by have := hcl1; simp only [core, List.length_append] at this hll ⊢; omega)) ?_
      refine TF.u (v := (T _)) rfl rfl (pr_assign rfl) ?_
      refine TF.nil (nx_then ?_)
      refine cw_seq ?_
      refine cw_block ?_
      refine cw_loop (fun m_q f_q w => ∃ (g_ : Nat → Value) (j : Nat), m_q = 236 - (core id p.cells).length - j ∧ f_q = (upd g_ 5 (T (core id p.cells ++ List.replicate j 0))) ∧ Sat [] w0 w [] ∧ (j ≤ 236 - (core id p.cells).length)) (236 - (core id p.cells).length - 0) ?_ ?_
      ·
        exact ⟨_, 0, rfl, (cutS rfl (by rw [List.replicate_zero, List.append_nil]; rfl)), (H.del 0), Nat.zero_le _⟩
      ·
        clear H
        rintro m_ f_ w ⟨g_, j, rfl, rfl, H, hj⟩
        have hjl : (core id p.cells ++ List.replicate j (0 : UInt8)).length = (core id p.cells).length + j := by rw [List.length_append, List.length_replicate]
        refine cw_seq ?_
        refine cw_seq ?_
        -- region 11 ref.go:36
        refine cw_region (clf [.U, .U, .U]) [0, 1, 2] rfl (by kernel_rfl) (by decide) ?_
        refine TF.u (v := (T _)) rfl rfl (pr_move rfl) ?_
        refine TF.u (v := (.int .i64 _)) rfl rfl (pr_slen rfl Try.underlying9 rfl) ?_
        refine TF.u (v := (.bool _)) rfl rfl (pr_lss rfl rfl) ?_
        refine TF.nil (nx_then ?_)
        refine cw_cond _ rfl rfl (fun hq13 => ?_) (fun hq13 => ?_)
        ·
          have hp13 := dT hq13
          refine cw_skip (nx_then ?_)
          refine cw_block ?_
          -- region 12 ref.go:37
          refine cw_region (clf [.U, .U, .U]) [0, 1, 2] rfl (by kernel_rfl) (by decide) ?_
          refine TF.u (v := (T _)) rfl rfl (pr_move rfl) ?_
          refine TF.u (v := (T _)) rfl rfl (pr_sadd rfl rfl (by simp only [List.length_append, List.length_replicate, List.length_cons, List.length_nil]; omega)) ?_
          refine TF.u (v := (T _)) rfl rfl (pr_assign rfl) ?_
          refine TF.nil (nx_block (nx_loop (m' := 236 - (core id p.cells).length - (j + 1)) (by omega) ?_))
          exact ⟨_, j + 1, rfl, (cutS rfl (by rw [List.replicate_succ', ← List.append_assoc]; rfl)), H, by omega⟩
        ·
          have hp13 := dF hq13
          refine cw_exit (ex_then (ex_then (ex_here (nx_then ?_))))
          refine cw_seq ?_
          -- region 13 ref.go:39
          refine cw_region (clf [.U, .X, .U]) [0, 1, 2] rfl (by kernel_rfl) (by decide) ?_
          obtain rfl : j = 236 - (core id p.cells).length := by omega
          have htl0 : tale0 id p.cells = core id p.cells ++ List.replicate (236 - (core id p.cells).length) 0 := rfl
          rw [← htl0]
          have htl := tale0_len (id := id) ok.len fun c hc => ((rightP_spec hr).1 c hc).1
          refine TF.u (v := (T _)) rfl rfl (pr_move rfl) ?_
          refine TF.call (args := [(T _)]) Try.fn57 rfl rfl (wantF_none rfl) rfl (rseal_ok _ _ (by first | omega | (simp; omega))) ?_
          rintro e_ w ⟨rfl, hb14⟩
          refine ⟨_, rfl, ?_⟩
          replace H := H.below hb14
          refine TF.u (v := (T _)) rfl rfl (pr_assign rfl) ?_
          refine TF.nil (nx_then ?_)
          refine cw_ret (fin1 (v := (T _)) Try.results47 rfl rfl ?_)
          exact ⟨rfl, H.base⟩

theorem rimage_ok (id : Nat) (p : PG) (ok : POk p) (w0 : World) (hid : id < 32) (hr : rightP p = true) :
    Calls Try.prog 36 #[.int .i64 (id : Int), .agg ⟨pgV p⟩] w0 fun e w => e = .returned (T (imageS id p)) ∧ Below w0.heap.size w0 w := by
  refine enter (args := [.int .i64 (id : Int), .agg ⟨pgV p⟩]) Try.func36 rfl Try.ntmps36 rfl ?_
  have H := Sat.start w0
  refine cw_seq ?_
  -- region 0 ref.go:43
  refine cw_region (clf [.X, .U]) [0, 1] rfl (by kernel_rfl) (by decide) ?_
  refine TF.box (v := (.agg ⟨pgV p⟩)) H rfl (Cx.xx rfl) (wantF_none rfl) rfl rfl ?_
  clear H
  intro bk1 w hltbk1 hb2 H
  refine TF.u (v := (T _)) rfl rfl (pr_assign rfl) ?_
  refine TF.nil (nx_then ?_)
  refine cw_seq ?_
  -- region 1 ref.go:44
  refine cw_drawS H Try.wide_ (clf [.U, .R, .P, .U, .R, .P, .U, .U]) [0, 1, 3, 4, 2, 5, 6, 7] (by kernel_rfl) (by kernel_rfl) ?_
  clear H
  intro w hbr H hB
  have hlsn := ok.lsn
  have htl := taleS_len (id := id) ok.len hr
  refine TF.u (v := (.pointer (some ⟨_, 0, none⟩))) rfl rfl (pr_field (o' := 0) Try.underlying27 rfl (Try.ty22.s) (by decide) rfl rfl) ?_
  refine TF.loadr (v := (.int .u64 (p.lsn : Int))) rfl rfl (wantF_none rfl) Try.underlying22 rfl rfl ((H.blk (k := 0) rfl).atB rfl) ?_
  refine TF.u (v := (.int .i64 _)) rfl rfl (pr_move rfl) ?_
  refine TF.loadEr (cs' := pgV p) rfl rfl (wantF_none rfl) (Try.ty27.s) rfl rfl (H.blk (k := 0) rfl) (pgV_len ok.len) (pgV_all ok.len) (fun _ h => h) ?_
  refine TF.callp (args := [(.int .i64 _), (.int .u64 (p.lsn : Int))]) Try.fn46 rfl rfl (wantF_none rfl) rfl (number_ok 8 _ _ (by omega) (by omega)) ?_
  rintro e_ w ⟨rfl, hb3⟩
  refine ⟨_, rfl, fun x => Below w.heap.size w x, fun x hx => below_trans (below_trans hB hb3) hx, Below.refl _ _, ?_⟩
  replace hB := Below.refl w.heap.size w
  replace H := H.below hb3
  refine TF.callp (args := [(.int .i64 _), (.agg ⟨pgV p⟩)]) Try.fn47 rfl rfl (wantF_none rfl) rfl (rtale_ok _ p ok _ (by omega) (by assumption)) ?_
  rintro e_ w ⟨rfl, hb4⟩
  refine ⟨_, rfl, fun x => Below w.heap.size w x, fun x hx => below_trans (below_trans hB hb4) hx, Below.refl _ _, ?_⟩
  replace hB := Below.refl w.heap.size w
  replace H := H.below hb4
  refine TF.u (v := (T _)) rfl rfl (pr_assign rfl) ?_
  refine TF.u (v := (T _)) rfl rfl (pr_assign rfl) ?_
  clear hB
  refine TF.nil (nx_then ?_)
  refine cw_seq ?_
  -- region 2 ref.go:45
  refine cw_drawS H Try.wide_ (clf [.U, .U, .U, .U, .U, .U, .U, .U, .U, .U]) [0, 1, 2, 3, 4, 5, 6, 7, 8, 9] (by kernel_rfl) (by kernel_rfl) ?_
  clear H
  intro w hbr H hB
  have hb8 := be_len 8 p.lsn
  refine TF.u (v := (T _)) rfl rfl (pr_move rfl) ?_
  refine TF.u (v := (T _)) rfl rfl (pr_move rfl) ?_
  refine TF.u (v := (T _)) rfl rfl (pr_sslice (l := 0) (h := 120) Try.underlying9 rfl (.inl ⟨rfl, rfl⟩) (.inr ⟨_, _, rfl, rfl⟩) (by omega) (by omega)) ?_
  refine TF.u (v := (T _)) rfl rfl (pr_sadd rfl rfl (by simp only [List.length_drop, List.length_take]; omega)) ?_
  refine TF.u (v := (T _)) rfl rfl (pr_move rfl) ?_
  refine TF.u (v := (T _)) rfl rfl (pr_sadd rfl rfl (by simp only [List.length_append, List.length_drop, List.length_take]; omega)) ?_
  refine TF.u (v := (T _)) rfl rfl (pr_move rfl) ?_
  refine TF.u (v := (T _)) rfl rfl (pr_sslice (l := 120) (h := (taleS id p).length) Try.underlying9 rfl (.inr ⟨_, _, rfl, rfl⟩) (.inl ⟨rfl, rfl⟩) (by omega) (by omega)) ?_
  refine TF.u (v := (T _)) rfl rfl (pr_sadd rfl rfl (by simp only [List.length_append, List.length_drop, List.length_take]; omega)) ?_
  refine TF.u (v := (T _)) rfl rfl (pr_assign rfl) ?_
  clear hB
  refine TF.nil (nx_then ?_)
  refine cw_ret (fin1 (v := (T _)) Try.results36 rfl rfl ?_)
  rw [List.take_length, List.drop_zero, List.append_assoc (_ ++ _)]
  exact ⟨rfl, H.base⟩

theorem rdecode_ok (id : Int) (b : List UInt8) (w0 : World) (hn : b.length ≤ 140737488351232) (h1 : -9223372036854775808 ≤ id) (h2 : id ≤ 9223372036854775807) :
    Calls Try.prog 53 #[.int .i64 id, T b] w0 fun e w => e = .returned (.tuple #[.agg ⟨pgV (decS id b).1⟩, .int .i64 (decS id b).2]) ∧ Below w0.heap.size w0 w := by
  refine enter (args := [.int .i64 id, T b]) Try.func53 rfl Try.ntmps53 rfl ?_
  have H := Sat.start w0
  refine cw_seq ?_
  -- region 0 ref.go:69
  refine cw_region (clf [.X, .U]) [0, 1] rfl (by kernel_rfl) (by decide) ?_
  refine TF.alloc H rfl (Cx.xx rfl) (wantF_none rfl) (Try.ty27) rfl ?_
  clear H
  intro bk1 w hltbk1 hb2 H
  replace H : Sat _ _ _ (cBlk _ _ (pgV noPg) :: _) := H
  replace H : Sat _ _ _ [_] := H
  refine TF.u (v := (.int .i64 _)) rfl rfl (pr_assign rfl) ?_
  refine TF.nil (nx_then ?_)
  refine cw_seq ?_
  refine cw_block ?_
  refine cw_seq ?_
  -- region 1 ref.go:71
  refine cw_region (clf [.U, .U, .U, .U, .U, .U, .U]) [0, 1, 2, 3, 4, 5, 6] rfl (by kernel_rfl) (by decide) ?_
  refine TF.u (v := (.int .i64 _)) rfl rfl (pr_move rfl) ?_
  refine TF.u (v := (.bool _)) rfl rfl (pr_lss rfl rfl) ?_
  refine TF.u (v := (.bool _)) rfl rfl (pr_move rfl) ?_
  refine TF.split (dj := 14) rfl (fun hq4 => ?_) (fun hq4 => ?_)
  ·
    have hp4 := dT hq4
    refine TF.skip rfl (wantF_no rfl rfl rfl hq4) ?_
    refine TF.skip rfl (wantF_no rfl rfl rfl hq4) ?_
    refine TF.u (v := (.bool _)) rfl rfl (pr_pickT rfl hq4 rfl) ?_
    refine TF.u (v := (.bool _)) rfl rfl (pr_assign rfl) ?_
    refine TF.nil (nx_then ?_)
    refine cw_condT (t := _) rfl rfl rfl ?_
    refine cw_seq ?_
    -- region 2 ref.go:72
    refine cw_region (clf [.U, .X, .U]) [0, 1, 2] rfl (by kernel_rfl) (by decide) ?_
    refine TF.u (v := (.agg ⟨pgV noPg⟩)) rfl rfl (pr_build (cs := pgV noPg) Try.bld27 rfl rfl) ?_
    refine TF.storeN (q := 0) (cs' := pgV noPg) H rfl rfl rfl (wantF_none rfl) (Try.ty27.s) rfl rfl (pgV_len noPg_ok.len) (pgV_one _) (by have h_ : (pgV noPg).length = 17 := (pgV_len noPg_ok.len); omega) (store_all (pgV_len noPg_ok.len)) ?_
    clear H
    intro w ho5 H
    replace H : Sat _ _ _ [_] := H
    refine TF.u (v := (.int .i64 _)) rfl rfl (pr_assign rfl) ?_
    refine TF.nil (nx_then ?_)
    refine cw_ret (rt_block (rt_then (finC2 (v := (.int .i64 _)) (cs := pgV noPg) Try.results53 rfl rfl (Try.ty27.s) rfl rfl (H.blk (k := 0) rfl) (pgV_len noPg_ok.len) rfl ?_)))
    rw [← refDec_eq, show refDec id b = _ by rw [refDec, if_pos (numberP_no (by omega))]]
    exact ⟨rfl, H.base⟩
  ·
    have hp4 := dF hq4
    refine TF.ug (v := (.int .i64 _)) rfl rfl (wantF_yes rfl rfl rfl hq4) (pr_move rfl) ?_
    refine TF.ug (v := (.bool _)) rfl rfl (wantF_yes rfl rfl rfl hq4) (pr_gtr rfl rfl) ?_
    refine TF.u (v := (.bool _)) rfl rfl (pr_pickF rfl hq4 rfl) ?_
    refine TF.u (v := (.bool _)) rfl rfl (pr_assign rfl) ?_
    refine TF.nil (nx_then ?_)
    refine cw_cond _ rfl rfl (fun hq7 => ?_) (fun hq7 => ?_)
    ·
      have hp7 := dT hq7
      refine cw_seq ?_
      -- region 2 ref.go:72
      refine cw_region (clf [.U, .X, .U]) [0, 1, 2] rfl (by kernel_rfl) (by decide) ?_
      refine TF.u (v := (.agg ⟨pgV noPg⟩)) rfl rfl (pr_build (cs := pgV noPg) Try.bld27 rfl rfl) ?_
      refine TF.storeN (q := 0) (cs' := pgV noPg) H rfl rfl rfl (wantF_none rfl) (Try.ty27.s) rfl rfl (pgV_len noPg_ok.len) (pgV_one _) (by have h_ : (pgV noPg).length = 17 := (pgV_len noPg_ok.len); omega) (store_all (pgV_len noPg_ok.len)) ?_
      clear H
      intro w ho8 H
      replace H : Sat _ _ _ [_] := H
      refine TF.u (v := (.int .i64 _)) rfl rfl (pr_assign rfl) ?_
      refine TF.nil (nx_then ?_)
      refine cw_ret (rt_block (rt_then (finC2 (v := (.int .i64 _)) (cs := pgV noPg) Try.results53 rfl rfl (Try.ty27.s) rfl rfl (H.blk (k := 0) rfl) (pgV_len noPg_ok.len) rfl ?_)))
      rw [← refDec_eq, show refDec id b = _ by rw [refDec, if_pos (numberP_no (by omega))]]
      exact ⟨rfl, H.base⟩
    ·
      have hp7 := dF hq7
      refine cw_seq ?_
      -- region 3 ref.go:73
      refine cw_region (clf [.U, .U, .U, .U]) [0, 1, 2, 3] rfl (by kernel_rfl) (by decide) ?_
      have hnum2 : 0 ≤ id ∧ id < 32 := by omega
      refine TF.u (v := (T _)) rfl rfl (pr_move rfl) ?_
      refine TF.u (v := (.int .i64 _)) rfl rfl (pr_slen rfl Try.underlying9 rfl) ?_
      refine TF.u (v := (.bool _)) rfl rfl (pr_lss rfl rfl) ?_
      refine TF.u (v := (.bool _)) rfl rfl (pr_assign rfl) ?_
      refine TF.nil (nx_then ?_)
      refine cw_cond _ rfl rfl (fun hq10 => ?_) (fun hq10 => ?_)
      ·
        have hp10 := dT hq10
        refine cw_seq ?_
        -- region 4 ref.go:74
        refine cw_region (clf [.U, .X, .U]) [0, 1, 2] rfl (by kernel_rfl) (by decide) ?_
        refine TF.u (v := (.agg ⟨pgV noPg⟩)) rfl rfl (pr_build (cs := pgV noPg) Try.bld27 rfl rfl) ?_
        refine TF.storeN (q := 0) (cs' := pgV noPg) H rfl rfl rfl (wantF_none rfl) (Try.ty27.s) rfl rfl (pgV_len noPg_ok.len) (pgV_one _) (by have h_ : (pgV noPg).length = 17 := (pgV_len noPg_ok.len); omega) (store_all (pgV_len noPg_ok.len)) ?_
        clear H
        intro w ho11 H
        replace H : Sat _ _ _ [_] := H
        refine TF.u (v := (.int .i64 _)) rfl rfl (pr_assign rfl) ?_
        refine TF.nil (nx_then ?_)
        refine cw_ret (rt_block (rt_then (finC2 (v := (.int .i64 _)) (cs := pgV noPg) Try.results53 rfl rfl (Try.ty27.s) rfl rfl (H.blk (k := 0) rfl) (pgV_len noPg_ok.len) rfl ?_)))
        rw [← refDec_eq, show refDec id b = _ by rw [refDec, if_neg (by simp [numberP_iff.2 hnum2]), if_pos (by omega)]]
        exact ⟨rfl, H.base⟩
      ·
        have hp10 := dF hq10
        refine cw_seq ?_
        -- region 5 ref.go:75
        refine cw_region (clf [.U, .U, .U, .U]) [0, 1, 2, 3] rfl (by kernel_rfl) (by decide) ?_
        refine TF.u (v := (T _)) rfl rfl (pr_move rfl) ?_
        refine TF.u (v := (.int .i64 _)) rfl rfl (pr_slen rfl Try.underlying9 rfl) ?_
        refine TF.u (v := (.bool _)) rfl rfl (pr_gtr rfl rfl) ?_
        refine TF.u (v := (.bool _)) rfl rfl (pr_assign rfl) ?_
        refine TF.nil (nx_then ?_)
        refine cw_cond _ rfl rfl (fun hq13 => ?_) (fun hq13 => ?_)
        ·
          have hp13 := dT hq13
          refine cw_seq ?_
          -- region 6 ref.go:76
          refine cw_region (clf [.U, .X, .U]) [0, 1, 2] rfl (by kernel_rfl) (by decide) ?_
          refine TF.u (v := (.agg ⟨pgV noPg⟩)) rfl rfl (pr_build (cs := pgV noPg) Try.bld27 rfl rfl) ?_
          refine TF.storeN (q := 0) (cs' := pgV noPg) H rfl rfl rfl (wantF_none rfl) (Try.ty27.s) rfl rfl (pgV_len noPg_ok.len) (pgV_one _) (by have h_ : (pgV noPg).length = 17 := (pgV_len noPg_ok.len); omega) (store_all (pgV_len noPg_ok.len)) ?_
          clear H
          intro w ho14 H
          replace H : Sat _ _ _ [_] := H
          refine TF.u (v := (.int .i64 _)) rfl rfl (pr_assign rfl) ?_
          refine TF.nil (nx_then ?_)
          refine cw_ret (rt_block (rt_then (finC2 (v := (.int .i64 _)) (cs := pgV noPg) Try.results53 rfl rfl (Try.ty27.s) rfl rfl (H.blk (k := 0) rfl) (pgV_len noPg_ok.len) rfl ?_)))
          rw [← refDec_eq, show refDec id b = _ by rw [refDec, if_neg (by simp [numberP_iff.2 hnum2]), if_neg (by omega), if_pos (by omega)]]
          exact ⟨rfl, H.base⟩
        ·
          have hp13 := dF hq13
          refine cw_seq ?_
          -- region 7 ref.go:77
          refine cw_region (clf [.U, .X, .U]) [0, 1, 2] rfl (by kernel_rfl) (by decide) ?_
          refine TF.u (v := (T _)) rfl rfl (pr_move rfl) ?_
          refine TF.call (args := [(T _)]) Try.fn52 rfl rfl (wantF_none rfl) rfl (rtorn_ok _ _) ?_
          rintro e_ w ⟨rfl, hb15⟩
          refine ⟨_, rfl, ?_⟩
          replace H := H.below hb15
          refine TF.u (v := (.bool _)) rfl rfl (pr_assign rfl) ?_
          refine TF.nil (nx_then ?_)
          refine cw_cond _ rfl rfl (fun hq17 => ?_) (fun hq17 => ?_)
          ·
            have hp17 := hq17
            refine cw_seq ?_
            -- region 8 ref.go:78
            refine cw_region (clf [.U, .X, .U]) [0, 1, 2] rfl (by kernel_rfl) (by decide) ?_
            refine TF.u (v := (.agg ⟨pgV noPg⟩)) rfl rfl (pr_build (cs := pgV noPg) Try.bld27 rfl rfl) ?_
            refine TF.storeN (q := 0) (cs' := pgV noPg) H rfl rfl rfl (wantF_none rfl) (Try.ty27.s) rfl rfl (pgV_len noPg_ok.len) (pgV_one _) (by have h_ : (pgV noPg).length = 17 := (pgV_len noPg_ok.len); omega) (store_all (pgV_len noPg_ok.len)) ?_
            clear H
            intro w ho18 H
            replace H : Sat _ _ _ [_] := H
            refine TF.u (v := (.int .i64 _)) rfl rfl (pr_assign rfl) ?_
            refine TF.nil (nx_then ?_)
            refine cw_ret (rt_block (rt_then (finC2 (v := (.int .i64 _)) (cs := pgV noPg) Try.results53 rfl rfl (Try.ty27.s) rfl rfl (H.blk (k := 0) rfl) (pgV_len noPg_ok.len) rfl ?_)))
            rw [← refDec_eq, show refDec id b = _ by rw [refDec, if_neg (by simp [numberP_iff.2 hnum2]), if_neg (by omega), if_neg (by omega), if_pos (by assumption)]]
            exact ⟨rfl, H.base⟩
          ·
            have hp17 := hq17
            refine cw_skip (nx_block (nx_then ?_))
            refine cw_seq ?_
            -- region 9 ref.go:80
            refine cw_drawS H Try.wide_ (clf [.U, .U, .U, .U, .U, .U]) [0, 1, 2, 3, 4, 5] (by kernel_rfl) (by kernel_rfl) ?_
            clear H
            intro w hbr H hB
            have htorn : tornS b = false := by assumption
            have hbl : b.length = 256 := by omega
            have hml := mid_len hbl
            obtain ⟨hst1, hst2, hst3⟩ := stamp_yes hbl htorn
            refine TF.u (v := (T _)) rfl rfl (pr_move rfl) ?_
            refine TF.u (v := (T _)) rfl rfl (pr_sslice (l := 8) (h := 128) Try.underlying9 rfl (.inr ⟨_, _, rfl, rfl⟩) (.inr ⟨_, _, rfl, rfl⟩) (by omega) (by omega)) ?_
            refine TF.u (v := (T _)) rfl rfl (pr_move rfl) ?_
            refine TF.u (v := (T _)) rfl rfl (pr_sslice (l := 136) (h := b.length) Try.underlying9 rfl (.inr ⟨_, _, rfl, rfl⟩) (.inl ⟨rfl, rfl⟩) (by omega) (by omega)) ?_
            refine TF.u (v := (T _)) rfl rfl (pr_sadd rfl rfl (by simp only [List.length_drop, List.length_take]; omega)) ?_
            refine TF.u (v := (T _)) rfl rfl (pr_assign rfl) ?_
            rw [mid_str hbl]
            clear hB
            refine TF.nil (nx_then ?_)
            refine cw_seq ?_
            refine cw_seq ?_
            -- region 10 ref.go:81
            refine cw_region (clf [.U, .U, .X, .U, .U]) [0, 1, 2, 3, 4] rfl (by kernel_rfl) (by decide) ?_
            refine TF.u (v := (T _)) rfl rfl (pr_move rfl) ?_
            refine TF.u (v := (T _)) rfl rfl (pr_sslice (l := 0) (h := 236) Try.underlying9 rfl (.inl ⟨rfl, rfl⟩) (.inr ⟨_, _, rfl, rfl⟩) (by omega) (by omega)) ?_
            refine TF.call (args := [(T _)]) Try.fn57 rfl rfl (wantF_none rfl) rfl (rseal_ok _ _ (by first | omega | (simp; omega))) ?_
            rintro e_ w ⟨rfl, hb19⟩
            refine ⟨_, rfl, ?_⟩
            replace H := H.below hb19
            refine TF.u (v := (T _)) rfl rfl (pr_move rfl) ?_
            refine TF.u (v := (.bool _)) rfl rfl (pr_sneq rfl rfl) ?_
            refine TF.nil (nx_then ?_)
            refine cw_cond _ rfl rfl (fun hq21 => ?_) (fun hq21 => ?_)
            ·
              have hp21 := eF (nT hq21)
              refine cw_seq ?_
              -- region 11 ref.go:82
              refine cw_region (clf [.U, .X, .U]) [0, 1, 2] rfl (by kernel_rfl) (by decide) ?_
              refine TF.u (v := (.agg ⟨pgV noPg⟩)) rfl rfl (pr_build (cs := pgV noPg) Try.bld27 rfl rfl) ?_
              refine TF.storeN (q := 0) (cs' := pgV noPg) H rfl rfl rfl (wantF_none rfl) (Try.ty27.s) rfl rfl (pgV_len noPg_ok.len) (pgV_one _) (by have h_ : (pgV noPg).length = 17 := (pgV_len noPg_ok.len); omega) (store_all (pgV_len noPg_ok.len)) ?_
              clear H
              intro w ho22 H
              replace H : Sat _ _ _ [_] := H
              refine TF.u (v := (.int .i64 _)) rfl rfl (pr_assign rfl) ?_
              refine TF.nil (nx_then ?_)
              refine cw_ret (rt_then (finC2 (v := (.int .i64 _)) (cs := pgV noPg) Try.results53 rfl rfl (Try.ty27.s) rfl rfl (H.blk (k := 0) rfl) (pgV_len noPg_ok.len) rfl ?_))
              rw [← refDec_eq, show refDec id b = _ by rw [refDec, if_neg (by simp [numberP_iff.2 hnum2]), if_neg (by omega), if_neg (by omega), if_neg (by simp [htorn]), if_pos (by assumption)]]
              exact ⟨rfl, H.base⟩
            ·
              have hp21 := eT (nF hq21)
              refine cw_skip (nx_then ?_)
              refine cw_seq ?_
              -- region 12 ref.go:84
              refine cw_region (clf [.X]) [0] rfl (by kernel_rfl) (by decide) ?_
              have hseal : sealS ((midS b).take 236) = midS b := by assumption
              refine TF.alloc H rfl (Cx.xx rfl) (wantF_none rfl) (Try.ty27) rfl ?_
              clear H
              intro bk23 w hltbk23 hb24 H
              replace H : Sat _ _ _ (cBlk _ _ (pgV noPg) :: _) := H
              replace H : Sat _ _ _ [_, _] := H
              refine TF.nil (nx_then ?_)
              refine cw_seq ?_
              -- region 13 ref.go:85
              refine cw_region (clf [.U, .X, .U, .U, .U, .U, .X]) [0, 1, 2, 3, 4, 5, 6] rfl (by kernel_rfl) (by decide) ?_
              refine TF.u (v := (T _)) rfl rfl (pr_move rfl) ?_
              refine TF.call (args := [(T _), (.int .i64 _), (.int .i64 _)]) Try.fn58 rfl rfl (wantF_none rfl) rfl (rtake_ok _ _ _ _ (by omega) (by omega) (by omega) (by omega) (by omega)) ?_
              rintro e_ w ⟨rfl, hb25⟩
              refine ⟨_, rfl, ?_⟩
              replace H := H.below hb25
              refine TF.u (v := (.tuple _)) rfl rfl (pr_move rfl) ?_
              refine TF.u (v := (.int .u64 _)) rfl rfl (pr_extract (vs := _) rfl rfl) ?_
              refine TF.u (v := (.int .i64 _)) rfl rfl (pr_extract (vs := _) rfl rfl) ?_
              refine TF.u (v := (.pointer (some ⟨_, 0, none⟩))) rfl rfl (pr_field (o' := 0) Try.underlying27 rfl (Try.ty22.s) (by decide) rfl rfl) ?_
              refine TF.store (v := (.int .u64 _)) (q := 0) H rfl rfl rfl (wantF_none rfl) (Try.ty22.s) rfl rfl rfl rfl ?_
              clear H
              intro w ho26 H
              replace H : Sat _ _ _ [_, _] := H
              replace H : Sat _ _ _ [cBlk _ _ (pgV (PG.mk (takeS b 0 8).1 noPg.cells)), _] := H
              refine TF.nil (nx_then ?_)
              refine cw_seq ?_
              -- region 14 ref.go:86
              refine cw_region (clf [.U]) [0] rfl (by kernel_rfl) (by decide) ?_
              refine TF.u (v := (.int .i64 _)) rfl rfl (pr_assign rfl) ?_
              refine TF.nil (nx_then ?_)
              refine cw_seq ?_
              refine cw_seq ?_
              -- region 15 ref.go:87
              refine cw_region (clf [.U]) [0] rfl (by kernel_rfl) (by decide) ?_
              refine TF.u (v := (.int .i64 _)) rfl rfl (pr_assign rfl) ?_
              refine TF.nil (nx_then ?_)
              refine cw_block ?_
              refine cw_loop (fun m_q f_q w => ∃ (g_ : Nat → Value) (i : Nat) (at_ : Nat) (l : List CL), m_q = 8 - i ∧ f_q = (upd (upd (upd (upd (upd (upd (upd g_ 0 (.int .i64 id)) 1 (T b)) 4 (.pointer (some ⟨bk1, 0, none⟩))) 6 (T (midS b))) 7 (.pointer (some ⟨bk23, 0, none⟩))) 8 (.int .i64 (at_ : Int))) 9 (.int .i64 (i : Int))) ∧ Sat [] w0 w [cBlk bk23 27 (pgV (PG.mk (takeS b 0 8).1 l)), cBlk bk1 27 (pgV noPg)] ∧ (i ≤ 8) ∧ (PI (midS b) i at_ l)) (8 - 0) ?_ ?_
              ·
                exact ⟨_, 0, 10, noPg.cells, rfl, (cutS (cutS (cutS (cutS (cutS (cutS (cutS rfl rfl) rfl) rfl) rfl) rfl) rfl) rfl), H, Nat.zero_le _, PI.start _⟩
              ·
                clear H
                rintro m_ f_ w ⟨g_, i, at_, l, rfl, rfl, H, hi, hI⟩
                have hI_ := hI
                obtain ⟨hl8, hl20, hlo, hhi, _, _⟩ := hI_
                refine cw_seq ?_
                refine cw_seq ?_
                -- region 16 ref.go:87
                refine cw_region (clf [.U, .U]) [0, 1] rfl (by kernel_rfl) (by decide) ?_
                refine TF.u (v := (.int .i64 _)) rfl rfl (pr_move rfl) ?_
                refine TF.u (v := (.bool _)) rfl rfl (pr_lss rfl rfl) ?_
                refine TF.nil (nx_then ?_)
                refine cw_cond _ rfl rfl (fun hq28 => ?_) (fun hq28 => ?_)
                ·
                  have hp28 := dT hq28
                  refine cw_skip (nx_then ?_)
                  refine cw_seq ?_
                  refine cw_block ?_
                  refine cw_seq ?_
                  -- region 18 ref.go:88
                  refine cw_region (clf [.U, .U, .U, .U, .U, .U]) [0, 1, 2, 3, 4, 5] rfl (by kernel_rfl) (by decide) ?_
                  have hbi := ((midS b).getD (2 + i) 0).toNat_lt
                  refine TF.u (v := (T _)) rfl rfl (pr_move rfl) ?_
                  refine TF.u (v := (.int .i64 _)) rfl rfl (pr_move rfl) ?_
                  refine TF.u (v := (.int .i64 _)) rfl rfl (pr_add rfl rfl (show _ = ((2 + i : Nat) : Int) from (IntWalk.i64_in _ (by omega)).trans (by omega))) ?_
                  refine TF.u (v := (.int .u8 (((midS b).getD (2 + i) 0).toNat : Int))) rfl rfl (pr_sindex Try.underlying9 rfl rfl (by omega) (by omega) rfl) ?_
                  refine TF.u (v := (.int .i64 _)) rfl rfl (pr_conv Try.underlying5 Try.underlying3 rfl (u8i _)) ?_
                  refine TF.u (v := (.int .i64 _)) rfl rfl (pr_assign rfl) ?_
                  refine TF.nil (nx_then ?_)
                  refine cw_seq ?_
                  refine cw_seq ?_
                  -- region 19 ref.go:89
                  refine cw_region (clf [.U, .U]) [0, 1] rfl (by kernel_rfl) (by decide) ?_
                  refine TF.u (v := (.int .i64 _)) rfl rfl (pr_move rfl) ?_
                  refine TF.u (v := (.bool _)) rfl rfl (pr_eql rfl rfl) ?_
                  refine TF.nil (nx_then ?_)
                  refine cw_cond _ rfl rfl (fun hq30 => ?_) (fun hq30 => ?_)
                  ·
                    have hp30 := dT hq30
                    refine cw_exit (ex_then (ex_here (nx_then ?_)))
                    -- region 17 ref.go:87
                    refine cw_region (clf [.U, .U, .U]) [0, 1, 2] rfl (by kernel_rfl) (by decide) ?_
                    have hp255 : (((midS b).getD (2 + i) 0).toNat : Int) = 255 := by assumption
                    refine TF.u (v := (.int .i64 _)) rfl rfl (pr_move rfl) ?_
                    refine TF.u (v := (.int .i64 _)) rfl rfl (pr_add rfl rfl (IntWalk.i64_in _ (by omega))) ?_
                    refine TF.u (v := (.int .i64 _)) rfl rfl (pr_assign rfl) ?_
                    refine TF.nil (nx_loop (m' := 8 - (i + 1)) (by omega) ?_)
                    exact ⟨_, i + 1, at_, l, rfl, (cutS (cutS (cutS (cutS (cutS (cutS (cutS rfl rfl) rfl) rfl) rfl) rfl) rfl) rfl), H, by omega, hI.skip (by omega) (by omega) (u255 hp255)⟩
                  ·
                    have hp30 := dF hq30
                    refine cw_skip (nx_then ?_)
                    refine cw_seq ?_
                    refine cw_seq ?_
                    -- region 20 ref.go:92
                    refine cw_region (clf [.U, .U]) [0, 1] rfl (by kernel_rfl) (by decide) ?_
                    have hp255 : ¬ (((midS b).getD (2 + i) 0).toNat : Int) = 255 := by assumption
                    refine TF.u (v := (.int .i64 _)) rfl rfl (pr_move rfl) ?_
                    refine TF.u (v := (.bool _)) rfl rfl (pr_gtr rfl rfl) ?_
                    refine TF.nil (nx_then ?_)
                    refine cw_cond _ rfl rfl (fun hq32 => ?_) (fun hq32 => ?_)
                    ·
                      have hp32 := dT hq32
                      refine cw_seq ?_
                      -- region 21 ref.go:93
                      refine cw_region (clf [.U, .X, .U]) [0, 1, 2] rfl (by kernel_rfl) (by decide) ?_
                      refine TF.u (v := (.agg ⟨pgV noPg⟩)) rfl rfl (pr_build (cs := pgV noPg) Try.bld27 rfl rfl) ?_
                      refine TF.storeN (q := 1) (cs' := pgV noPg) H rfl rfl rfl (wantF_none rfl) (Try.ty27.s) rfl rfl (pgV_len noPg_ok.len) (pgV_one _) (by have h_ : (pgV noPg).length = 17 := (pgV_len noPg_ok.len); omega) (store_all (pgV_len noPg_ok.len)) ?_
                      clear H
                      intro w ho33 H
                      replace H : Sat _ _ _ [_, _] := H
                      refine TF.u (v := (.int .i64 _)) rfl rfl (pr_assign rfl) ?_
                      refine TF.nil (nx_then ?_)
                      refine cw_ret (rt_then (rt_block (rt_then (rt_then (rt_block (rt_then (finC2 (v := (.int .i64 _)) (cs := pgV noPg) Try.results53 rfl rfl (Try.ty27.s) rfl rfl (H.blk (k := 1) rfl) (pgV_len noPg_ok.len) rfl ?_)))))))
                      have hd : refDec id b = (noPg, 2) := by
                        rw [refDec, if_neg (by simp [numberP_iff.2 hnum2]), if_neg (by omega), if_neg (by omega), if_neg (by simp [htorn]), if_neg (fun h => h hseal)]
                        simp only [hI.big (by omega) (by omega) (u255n hp255) (by omega)]
                      rw [← refDec_eq, hd]
                      exact ⟨rfl, H.base⟩
                    ·
                      have hp32 := dF hq32
                      refine cw_skip (nx_then ?_)
                      refine cw_seq ?_
                      -- region 22 ref.go:95
                      refine cw_region (clf [.U, .U, .U, .U, .U, .U, .U, .U, .U, .U, .X]) [0, 1, 2, 3, 4, 5, 6, 7, 8, 9, 10] rfl (by kernel_rfl) (by decide) ?_
                      refine TF.u (v := (.int .i64 _)) rfl rfl (pr_move rfl) ?_
                      refine TF.u (v := (T _)) rfl rfl (pr_move rfl) ?_
                      refine TF.u (v := (.int .i64 _)) rfl rfl (pr_move rfl) ?_
                      refine TF.u (v := (.int .i64 _)) rfl rfl (pr_move rfl) ?_
                      refine TF.u (v := (.int .i64 _)) rfl rfl (pr_move rfl) ?_
                      refine TF.u (v := (.int .i64 _)) rfl rfl (pr_add rfl rfl (show _ = ((at_ + ((midS b).getD (2 + i) 0).toNat : Nat) : Int) from (IntWalk.i64_in _ (by omega)).trans (by omega))) ?_
                      refine TF.u (v := (T _)) rfl rfl (pr_sslice (l := at_) (h := (at_ + ((midS b).getD (2 + i) 0).toNat)) Try.underlying9 rfl (.inr ⟨_, _, rfl, rfl⟩) (.inr ⟨_, _, rfl, rfl⟩) (by omega) (by omega)) ?_
                      refine TF.u (v := (.agg ⟨cellV (true, ((midS b).take (at_ + ((midS b).getD (2 + i) 0).toNat)).drop at_)⟩)) rfl rfl (pr_build (cs := cellV (true, ((midS b).take (at_ + ((midS b).getD (2 + i) 0).toNat)).drop at_)) Try.bld24 rfl rfl) ?_
                      refine TF.u (v := (.pointer (some ⟨_, 1, none⟩))) rfl rfl (pr_field (o' := 1) Try.underlying27 rfl (Try.ty25.s) (by decide) rfl rfl) ?_
                      refine TF.u (v := (.pointer (some ⟨_, _, none⟩))) rfl rfl (pr_idxA Try.underlying25 (Try.ty24.s) rfl rfl (by omega) (by omega)) ?_
                      refine TF.storeN (q := 0) (cs' := pgV (PG.mk (PG.lsn (PG.mk (takeS b 0 8).1 l)) ((PG.cells (PG.mk (takeS b 0 8).1 l)).set i (true, ((midS b).take (at_ + ((midS b).getD (2 + i) 0).toNat)).drop at_)))) H rfl rfl rfl (wantF_none rfl) (Try.ty24.s) rfl rfl rfl (cellV_one _) (by have h_ : (pgV (PG.mk (takeS b 0 8).1 l)).length = 17 := (pgV_len (hI.pok hst3).len); simp only [Int.toNat_natCast]; omega) (pgV_set (true, ((midS b).take (at_ + ((midS b).getD (2 + i) 0).toNat)).drop at_) (hI.pok hst3).len (by omega)) ?_
                      clear H
                      intro w ho34 H
                      replace H : Sat _ _ _ [_, _] := H
                      refine TF.nil (nx_then ?_)
                      -- region 23 ref.go:96
                      refine cw_region (clf [.U, .U, .U, .U]) [0, 1, 2, 3] rfl (by kernel_rfl) (by decide) ?_
                      refine TF.u (v := (.int .i64 _)) rfl rfl (pr_move rfl) ?_
                      refine TF.u (v := (.int .i64 _)) rfl rfl (pr_move rfl) ?_
                      refine TF.u (v := (.int .i64 _)) rfl rfl (pr_add rfl rfl (show _ = ((at_ + ((midS b).getD (2 + i) 0).toNat : Nat) : Int) from (IntWalk.i64_in _ (by omega)).trans (by omega))) ?_
                      refine TF.u (v := (.int .i64 _)) rfl rfl (pr_assign rfl) ?_
                      refine TF.nil (nx_block (nx_then ?_))
                      -- region 17 ref.go:87
                      refine cw_region (clf [.U, .U, .U]) [0, 1, 2] rfl (by kernel_rfl) (by decide) ?_
                      skip
                      refine TF.u (v := (.int .i64 _)) rfl rfl (pr_move rfl) ?_
                      refine TF.u (v := (.int .i64 _)) rfl rfl (pr_add rfl rfl (IntWalk.i64_in _ (by omega))) ?_
                      refine TF.u (v := (.int .i64 _)) rfl rfl (pr_assign rfl) ?_
                      refine TF.nil (nx_loop (m' := 8 - (i + 1)) (by omega) ?_)
                      exact ⟨_, i + 1, _, _, rfl, (cutS (cutS (cutS (cutS (cutS (cutS (cutS rfl rfl) rfl) rfl) rfl) rfl) rfl) rfl), H, by omega, hI.put (by omega) (by omega) (u255n hp255) (by omega) cut_eq⟩
                ·
                  have hp28 := dF hq28
                  refine cw_exit (ex_then (ex_then (ex_here (nx_then ?_))))
                  refine cw_seq ?_
                  refine cw_seq ?_
                  -- region 24 ref.go:98
                  refine cw_region (clf [.X, .X, .U, .U, .U, .X, .X, .U, .U, .U]) [0, 1, 2, 3, 4, 5, 6, 7, 8, 9] rfl (by kernel_rfl) (by decide) ?_
                  obtain rfl : i = 8 := by omega
                  obtain ⟨k, rfl⟩ := Int.eq_ofNat_of_zero_le hnum2.1
                  refine TF.loadE (cs' := pgV (PG.mk (takeS b 0 8).1 l)) rfl rfl (wantF_none rfl) (Try.ty27.s) rfl rfl (H.blk (k := 0) rfl) (pgV_len (hI.pok hst3).len) (pgV_all (hI.pok hst3).len) ?_
                  refine TF.call (args := [(.agg ⟨pgV (PG.mk (takeS b 0 8).1 l)⟩)]) Try.fn11 rfl rfl (wantF_none rfl) rfl (rright_ok (PG.mk (takeS b 0 8).1 l) (hI.pok hst3) _) ?_
                  rintro e_ w ⟨rfl, hb35⟩
                  refine ⟨_, rfl, ?_⟩
                  replace H := H.below hb35
                  refine TF.u (v := (.bool _)) rfl rfl (pr_not rfl) ?_
                  refine TF.u (v := (.bool _)) rfl rfl (pr_move rfl) ?_
                  refine TF.split (dj := 80) rfl (fun hq37 => ?_) (fun hq37 => ?_)
                  ·
                    have hp37 := (nT hq37)
                    refine TF.skip rfl (wantF_no rfl rfl rfl (bnF (nT hq37))) ?_
                    refine TF.skip rfl (wantF_no rfl rfl rfl (bnF (nT hq37))) ?_
                    refine TF.skip rfl (wantF_no rfl rfl rfl (bnF (nT hq37))) ?_
                    refine TF.skip rfl (wantF_no rfl rfl rfl (bnF (nT hq37))) ?_
                    refine TF.skip rfl (wantF_no rfl rfl rfl (bnF (nT hq37))) ?_
                    refine TF.u (v := (.bool _)) rfl rfl (pr_pickT rfl (bnF (nT hq37)) rfl) ?_
                    refine TF.nil (nx_then ?_)
                    refine cw_condT (t := _) rfl rfl rfl ?_
                    refine cw_seq ?_
                    -- region 25 ref.go:99
                    refine cw_region (clf [.U, .X, .U]) [0, 1, 2] rfl (by kernel_rfl) (by decide) ?_
                    skip
                    refine TF.u (v := (.agg ⟨pgV noPg⟩)) rfl rfl (pr_build (cs := pgV noPg) Try.bld27 rfl rfl) ?_
                    refine TF.storeN (q := 1) (cs' := pgV noPg) H rfl rfl rfl (wantF_none rfl) (Try.ty27.s) rfl rfl (pgV_len noPg_ok.len) (pgV_one _) (by have h_ : (pgV noPg).length = 17 := (pgV_len noPg_ok.len); omega) (store_all (pgV_len noPg_ok.len)) ?_
                    clear H
                    intro w ho38 H
                    replace H : Sat _ _ _ [_, _] := H
                    refine TF.u (v := (.int .i64 _)) rfl rfl (pr_assign rfl) ?_
                    refine TF.nil (nx_then ?_)
                    refine cw_ret (rt_then (finC2 (v := (.int .i64 _)) (cs := pgV noPg) Try.results53 rfl rfl (Try.ty27.s) rfl rfl (H.blk (k := 1) rfl) (pgV_len noPg_ok.len) rfl ?_))
                    have hd : refDec (k : Int) b = (noPg, 2) := by
                      rw [refDec, if_neg (by simp [numberP_iff.2 hnum2]), if_neg (by omega), if_neg (by omega), if_neg (by simp [htorn]), if_neg (fun h => h hseal)]
                      simp only [hI.fin]
                      rw [if_neg (by first | (rintro ⟨h_, _⟩; simp_all; done) | (rintro ⟨_, h_⟩; simp_all; done))]
                    rw [← refDec_eq, hd]
                    exact ⟨rfl, H.base⟩
                  ·
                    have hp37 := (nF hq37)
                    refine TF.ug (v := (.int .i64 _)) rfl rfl (wantF_yes rfl rfl rfl (bnT (nF hq37))) (pr_move rfl) ?_
                    refine TF.loadE (cs' := pgV (PG.mk (takeS b 0 8).1 l)) rfl rfl (wantF_yes rfl rfl rfl (bnT (nF hq37))) (Try.ty27.s) rfl rfl (H.blk (k := 0) rfl) (pgV_len (hI.pok hst3).len) (pgV_all (hI.pok hst3).len) ?_
                    refine TF.call (args := [(.int .i64 _), (.agg ⟨pgV (PG.mk (takeS b 0 8).1 l)⟩)]) Try.fn36 rfl rfl (wantF_yes rfl rfl rfl (bnT (nF hq37))) rfl (rimage_ok _ (PG.mk (takeS b 0 8).1 l) (hI.pok hst3) _ (by omega) (by assumption)) ?_
                    rintro e_ w ⟨rfl, hb39⟩
                    refine ⟨_, rfl, ?_⟩
                    replace H := H.below hb39
                    refine TF.ug (v := (T _)) rfl rfl (wantF_yes rfl rfl rfl (bnT (nF hq37))) (pr_move rfl) ?_
                    refine TF.ug (v := (.bool _)) rfl rfl (wantF_yes rfl rfl rfl (bnT (nF hq37))) (pr_sneq rfl rfl) ?_
                    refine TF.u (v := (.bool _)) rfl rfl (pr_pickF rfl (bnT (nF hq37)) rfl) ?_
                    refine TF.nil (nx_then ?_)
                    refine cw_cond _ rfl rfl (fun hq41 => ?_) (fun hq41 => ?_)
                    ·
                      have hp41 := eF (nT hq41)
                      refine cw_seq ?_
                      -- region 25 ref.go:99
                      refine cw_region (clf [.U, .X, .U]) [0, 1, 2] rfl (by kernel_rfl) (by decide) ?_
                      skip
                      refine TF.u (v := (.agg ⟨pgV noPg⟩)) rfl rfl (pr_build (cs := pgV noPg) Try.bld27 rfl rfl) ?_
                      refine TF.storeN (q := 1) (cs' := pgV noPg) H rfl rfl rfl (wantF_none rfl) (Try.ty27.s) rfl rfl (pgV_len noPg_ok.len) (pgV_one _) (by have h_ : (pgV noPg).length = 17 := (pgV_len noPg_ok.len); omega) (store_all (pgV_len noPg_ok.len)) ?_
                      clear H
                      intro w ho42 H
                      replace H : Sat _ _ _ [_, _] := H
                      refine TF.u (v := (.int .i64 _)) rfl rfl (pr_assign rfl) ?_
                      refine TF.nil (nx_then ?_)
                      refine cw_ret (rt_then (finC2 (v := (.int .i64 _)) (cs := pgV noPg) Try.results53 rfl rfl (Try.ty27.s) rfl rfl (H.blk (k := 1) rfl) (pgV_len noPg_ok.len) rfl ?_))
                      have hd : refDec (k : Int) b = (noPg, 2) := by
                        rw [refDec, if_neg (by simp [numberP_iff.2 hnum2]), if_neg (by omega), if_neg (by omega), if_neg (by simp [htorn]), if_neg (fun h => h hseal)]
                        simp only [hI.fin]
                        rw [if_neg (by first | (rintro ⟨h_, _⟩; simp_all; done) | (rintro ⟨_, h_⟩; simp_all; done))]
                      rw [← refDec_eq, hd]
                      exact ⟨rfl, H.base⟩
                    ·
                      have hp41 := eT (nF hq41)
                      refine cw_skip (nx_then ?_)
                      refine cw_seq ?_
                      -- region 26 ref.go:101
                      refine cw_region (clf [.X, .X, .U]) [0, 1, 2] rfl (by kernel_rfl) (by decide) ?_
                      refine TF.loadE (cs' := pgV (PG.mk (takeS b 0 8).1 l)) rfl rfl (wantF_none rfl) (Try.ty27.s) rfl rfl (H.blk (k := 0) rfl) (pgV_len (hI.pok hst3).len) (pgV_all (hI.pok hst3).len) ?_
                      refine TF.storeN (q := 1) (cs' := pgV (PG.mk (takeS b 0 8).1 l)) H rfl rfl rfl (wantF_none rfl) (Try.ty27.s) rfl rfl (pgV_len (hI.pok hst3).len) (pgV_one _) (by have h_ : (pgV noPg).length = 17 := (pgV_len noPg_ok.len); omega) (store_all (pgV_len noPg_ok.len)) ?_
                      clear H
                      intro w ho43 H
                      replace H : Sat _ _ _ [_, _] := H
                      refine TF.u (v := (.int .i64 _)) rfl rfl (pr_assign rfl) ?_
                      refine TF.nil (nx_then ?_)
                      refine cw_ret (finC2 (v := (.int .i64 _)) (cs := pgV (PG.mk (takeS b 0 8).1 l)) Try.results53 rfl rfl (Try.ty27.s) rfl rfl (H.blk (k := 1) rfl) (pgV_len (hI.pok hst3).len) rfl ?_)
                      have hd : refDec (k : Int) b = (⟨(takeS b 0 8).1, l⟩, 0) := by
                        rw [refDec, if_neg (by simp [numberP_iff.2 hnum2]), if_neg (by omega), if_neg (by omega), if_neg (by simp [htorn]), if_neg (fun h => h hseal)]
                        simp only [hI.fin]
                        rw [if_pos ⟨by assumption, by assumption⟩]
                      rw [← refDec_eq, hd]
                      exact ⟨rfl, H.base⟩
end Go.Proofs.Ytpncaeadbfdflaa
