/- The given statement Rows.StoreKeepsSaid: quayside/quaysidelaw10.StoreKeeps returns true for all arguments, and leaves its arguments as they were. No further condition. -/
import Derived.Test.YtpncaeadbfdflaaFns5
import Derived.Test.YtpncaeadbfdflaaRows
import Derived.Test.YtpncaeadbfdflaaPage2
import Derived.Test.YtpncaeadbfdflaaArgsP
import Derived.Test.YtpncaeadbfdflaaCore12
import Derived.Test.YtpncaeadbfdflaaPage3
import Derived.Test.YtpncaeadbfdflaaCore13
import Derived.Test.YtpncaeadbfdflaaCore14
import Derived.Test.YtpncaeadbfdflaaStore
import Derived.Test.YtpncaeadbfdflaaStoreV
import Derived.Test.YtpncaeadbfdflaaStoreR
import Derived.Test.YtpncaeadbfdflaaStoreS
import Derived.Test.YtpncaeadbfdflaaStoreL
import Derived.Test.YtpncaeadbfdflaaArgs
import Derived.WalkKit
import Derived.ProofKit
import Derived.OpenShut
import Derived.ShutString
import Derived.ChangeOld
import Derived.Below
import Derived.SizedLaws
import Derived.JoinedCond
set_option linter.unusedSimpArgs false
set_option linter.unusedVariables false
set_option maxRecDepth 10000
namespace Go.Proofs.Ytpncaeadbfdflaa
open Go.Q Go.RowKit Go.Proofs
theorem Try.fn10 : Fnc Try.prog 10 Try.f10 := ⟨Try.func10, by kernel_rfl, by kernel_rfl⟩
theorem StoreKeeps_ok (id : Nat) (p : PG) (w0 : World) (hid : id < 256) (ok_p : POk p) :
    Calls Try.prog 3 #[.int .u8 (id : Int), .agg ⟨pgV p⟩] w0 fun e w => e = .returned (.bool true) ∧ Below w0.heap.size w0 w := by
  refine enter (args := [.int .u8 (id : Int), .agg ⟨pgV p⟩]) Try.func3 rfl Try.ntmps3 rfl ?_
  have H := Sat.start w0
  refine cw_seq ?_
  -- region 0 law.go:203
  refine cw_region (clf [.X, .U]) [0, 1] rfl (by kernel_rfl) (by decide) ?_
  refine TF.box (v := (.agg ⟨pgV p⟩)) H rfl (Cx.xx rfl) (wantF_none rfl) rfl rfl ?_
  clear H
  intro bk1 w hltbk1 hb2 H
  refine TF.u (v := (.bool _)) rfl rfl (pr_assign rfl) ?_
  refine TF.nil (nx_then ?_)
  refine cw_seq ?_
  refine cw_seq ?_
  -- region 1 law.go:204
  refine cw_region (clf [.X, .U, .U, .X, .X, .U, .U, .U, .U, .X, .U, .U]) [0, 1, 2, 3, 4, 5, 6, 7, 8, 9, 10, 11] rfl (by kernel_rfl) (by decide) ?_
  refine TF.call (args := []) Try.fn10 rfl rfl (wantF_none rfl) rfl (awake_ok _) ?_
  rintro e_ w ⟨rfl, hb3⟩
  refine ⟨_, rfl, ?_⟩
  replace H := H.below hb3
  refine TF.u (v := (.bool _)) rfl rfl (pr_not rfl) ?_
  refine TF.u (v := (.bool _)) rfl rfl (pr_move rfl) ?_
  refine TF.loadE (cs' := pgV p) rfl rfl (wantF_yes rfl rfl rfl rfl) (Try.ty27.s) rfl rfl (H.blk (k := 0) rfl) (pgV_len ok_p.len) (pgV_all ok_p.len) ?_
  refine TF.call (args := [(.agg ⟨pgV p⟩)]) Try.fn11 rfl rfl (wantF_yes rfl rfl rfl rfl) rfl (rright_ok p ok_p _) ?_
  rintro e_ w ⟨rfl, hb4⟩
  refine ⟨_, rfl, ?_⟩
  replace H := H.below hb4
  refine TF.ug (v := (.bool _)) rfl rfl (wantF_yes rfl rfl rfl rfl) (pr_not rfl) ?_
  refine TF.u (v := (.bool _)) rfl rfl (pr_pickF rfl rfl rfl) ?_
  refine TF.u (v := (.bool _)) rfl rfl (pr_move rfl) ?_
  refine TF.split (dj := 19) rfl (fun hq6 => ?_) (fun hq6 => ?_)
  ·
    have hp6 := (nT hq6)
    refine TF.skip rfl (wantF_no rfl rfl rfl (bnF (nT hq6))) ?_
    refine TF.skip rfl (wantF_no rfl rfl rfl (bnF (nT hq6))) ?_
    refine TF.skip rfl (wantF_no rfl rfl rfl (bnF (nT hq6))) ?_
    refine TF.u (v := (.bool _)) rfl rfl (pr_pickT rfl (bnF (nT hq6)) rfl) ?_
    refine TF.nil (nx_then ?_)
    refine cw_condT (t := _) rfl rfl rfl ?_
    refine cw_seq ?_
    -- region 2 law.go:205
    refine cw_region (clf [.X, .U]) [0, 1] rfl (by kernel_rfl) (by decide) ?_
    refine TF.call (args := []) Try.fn10 rfl rfl (wantF_none rfl) rfl (awake_ok _) ?_
    rintro e_ w ⟨rfl, hb7⟩
    refine ⟨_, rfl, ?_⟩
    replace H := H.below hb7
    refine TF.u (v := (.bool _)) rfl rfl (pr_assign rfl) ?_
    refine TF.nil (nx_then ?_)
    refine cw_ret (rt_then (fin1 (v := (.bool _)) Try.results3 rfl rfl ?_))
    exact ⟨by simp, H.base⟩
  ·
    have hp6 := (nF hq6)
    refine TF.ug (v := (.pointer (some ⟨_, 0, none⟩))) rfl rfl (wantF_yes rfl rfl rfl (bnT (nF hq6))) (pr_field (o' := 0) Try.underlying27 rfl (Try.ty22.s) (by decide) rfl rfl) ?_
    refine TF.load (v := (.int .u64 (p.lsn : Int))) rfl rfl (wantF_yes rfl rfl rfl (bnT (nF hq6))) Try.underlying22 rfl rfl ((H.blk (k := 0) rfl).at_ rfl) ?_
    refine TF.ug (v := (.bool _)) rfl rfl (wantF_yes rfl rfl rfl (bnT (nF hq6))) (pr_eql rfl rfl) ?_
    refine TF.u (v := (.bool _)) rfl rfl (pr_pickF rfl (bnT (nF hq6)) rfl) ?_
    refine TF.nil (nx_then ?_)
    refine cw_cond _ rfl rfl (fun hq9 => ?_) (fun hq9 => ?_)
    ·
      have hp9 := dT hq9
      refine cw_seq ?_
      -- region 2 law.go:205
      refine cw_region (clf [.X, .U]) [0, 1] rfl (by kernel_rfl) (by decide) ?_
      refine TF.call (args := []) Try.fn10 rfl rfl (wantF_none rfl) rfl (awake_ok _) ?_
      rintro e_ w ⟨rfl, hb10⟩
      refine ⟨_, rfl, ?_⟩
      replace H := H.below hb10
      refine TF.u (v := (.bool _)) rfl rfl (pr_assign rfl) ?_
      refine TF.nil (nx_then ?_)
      refine cw_ret (rt_then (fin1 (v := (.bool _)) Try.results3 rfl rfl ?_))
      exact ⟨by simp, H.base⟩
    ·
      have hp9 := dF hq9
      refine cw_skip (nx_then ?_)
      refine cw_seq ?_
      -- region 3 law.go:207
      refine cw_region (clf [.X, .U]) [0, 1] rfl (by kernel_rfl) (by decide) ?_
      refine TF.call (args := [(.int .i64 _)]) Try.fn12 rfl rfl (wantF_none rfl) rfl (snew_ok 32 _ (by omega) (by omega)) ?_
      rintro e_ w ⟨tb11, rfl, hn11, ok11⟩
      refine ⟨_, rfl, ?_⟩
      replace H := H.newC hn11
      replace H : Sat _ _ _ [_, _] := H
      refine TF.u (v := (.pointer (some ⟨_, 0, none⟩))) rfl rfl (pr_assign rfl) ?_
      refine TF.nil (nx_then ?_)
      refine cw_seq ?_
      -- region 4 law.go:208
      refine cw_region (clf [.U, .U, .U, .U]) [0, 1, 2, 3] rfl (by kernel_rfl) (by decide) ?_
      refine TF.u (v := (.int .u8 _)) rfl rfl (pr_move rfl) ?_
      refine TF.u (v := (.int .u8 _)) rfl rfl (pr_rem rfl rfl (by omega) (show _ = ((id % 32 : Nat) : Int) from (Int.ofNat_tmod _ _).symm)) ?_
      refine TF.u (v := (.int .i64 _)) rfl rfl (pr_conv Try.underlying5 Try.underlying3 rfl (IntWalk.i64_in _ (by omega))) ?_
      refine TF.u (v := (.int .i64 _)) rfl rfl (pr_assign rfl) ?_
      refine TF.nil (nx_then ?_)
      refine cw_seq ?_
      refine cw_seq ?_
      -- region 5 law.go:209
      refine cw_region (clf [.U, .U, .U, .U, .U, .X, .X, .U, .U]) [0, 1, 2, 3, 4, 5, 6, 7, 8] rfl (by kernel_rfl) (by decide) ?_
      have hi32 := Nat.mod_lt id (show 0 < 32 by omega)
      obtain ⟨kw1, kw2, kw3⟩ := sWrite_first (pages := 32) (n := 0) (id := ((id % 32 : Nat) : Int)) (p := p) ok_p (by simp_all) (by omega) (by decide) (by omega) (by unfold numPl; omega)
      refine TF.u (v := (.pointer (some ⟨_, 0, none⟩))) rfl rfl (pr_move rfl) ?_
      refine TF.u (v := (.bool _)) rfl rfl (pr_peql Try.underlying30 rfl rfl) ?_
      refine TF.u (v := (.bool _)) rfl rfl (pr_move rfl) ?_
      refine TF.ug (v := (.pointer (some ⟨_, 0, none⟩))) rfl rfl (wantF_yes rfl rfl rfl rfl) (pr_move rfl) ?_
      refine TF.ug (v := (.int .i64 _)) rfl rfl (wantF_yes rfl rfl rfl rfl) (pr_move rfl) ?_
      refine TF.loadE (cs' := pgV p) rfl rfl (wantF_yes rfl rfl rfl rfl) (Try.ty27.s) rfl rfl (H.blk (k := 1) rfl) (pgV_len ok_p.len) (pgV_all ok_p.len) ?_
      obtain ⟨F12, hF12, hU12⟩ := H.focus (k := 0) rfl
      refine TF.call (args := [(.pointer (some ⟨_, 0, none⟩)), (.int .i64 _), (.int .i64 _), (.agg ⟨pgV p⟩), (.int .i64 _)]) Try.fn13 rfl rfl (wantF_yes rfl rfl rfl rfl) rfl (swrite_ok _ _ _ _ _ _ p ok_p _ hF12 ok11 (by omega) (by omega) (by omega) (by omega) (by omega) (by omega)) ?_
      rintro e_ w ⟨rfl, hu12, ok12⟩
      refine ⟨_, rfl, ?_⟩
      replace H := hU12 hu12
      replace H : Sat _ _ _ [_, _] := H
      refine TF.ug (v := (.bool _)) rfl rfl (wantF_yes rfl rfl rfl rfl) (pr_neq rfl rfl) ?_
      refine TF.u (v := (.bool _)) rfl rfl (pr_pickF rfl rfl rfl) ?_
      refine TF.nil (nx_then ?_)
      refine cw_cond _ rfl rfl (fun hq14 => by
          have hp14 := dF (nT hq14)
          exfalso
          exact hp14 kw1) ?_
      intro hq14
      have hp14 := dT (nF hq14)
      refine cw_skip (nx_then ?_)
      refine cw_seq ?_
      -- region 7 law.go:212
      refine cw_region (clf [.U, .U, .X, .U, .U, .U, .U, .U]) [0, 1, 2, 3, 4, 5, 6, 7] rfl (by kernel_rfl) (by decide) ?_
      refine TF.u (v := (.pointer (some ⟨_, 0, none⟩))) rfl rfl (pr_move rfl) ?_
      refine TF.u (v := (.int .i64 _)) rfl rfl (pr_move rfl) ?_
      obtain ⟨F15, hF15, hU15⟩ := H.focus (k := 0) rfl
      refine TF.call (args := [(.pointer (some ⟨_, 0, none⟩)), (.int .i64 _)]) Try.fn14 rfl rfl (wantF_none rfl) rfl (simage_ok _ _ _ _ _ hF15 ok12 (by omega) (by omega)) ?_
      rintro e_ w ⟨A15, n15, c15, rfl, hn15⟩
      refine ⟨_, rfl, ?_⟩
      replace H := H.newS hn15
      refine TF.u (v := (.tuple _)) rfl rfl (pr_move rfl) ?_
      refine TF.u (v := (.slice _ _ _)) rfl rfl (pr_extract (vs := _) rfl rfl) ?_
      refine TF.u (v := (.int .i64 _)) rfl rfl (pr_extract (vs := _) rfl rfl) ?_
      refine TF.u (v := (.slice _ _ _)) rfl rfl (pr_assign rfl) ?_
      refine TF.u (v := (.int .i64 _)) rfl rfl (pr_assign rfl) ?_
      refine TF.nil (nx_then ?_)
      refine cw_seq ?_
      refine cw_seq ?_
      -- region 8 law.go:213
      refine cw_region (clf [.U, .U, .U]) [0, 1, 2] rfl (by kernel_rfl) (by decide) ?_
      generalize hs_ : (sWrite (sNew 32) 0 ((id % 32 : Nat) : Int) p 15).1 = s at H ok12 kw2 kw3
      obtain ⟨x_, hx_⟩ : ∃ x, s.pl[id % 32]? = some x := ⟨_, List.getElem?_eq_getElem (by rw [kw3]; unfold numPl; omega)⟩
      have him := sImage_yes hx_
      rw [him] at H ⊢
      have hx256 := ok12.plen _ (List.mem_of_getElem? hx_)
      have hn256 := (H.rdB (k := 0) rfl).length
      simp only at hn256
      refine TF.u (v := (.slice _ _ _)) rfl rfl (pr_move rfl) ?_
      refine TF.u (v := (.int .i64 _)) rfl rfl (pr_len rfl Try.underlying34 rfl) ?_
      refine TF.u (v := (.int .i64 _)) rfl rfl (pr_move rfl) ?_
      refine TF.nil (nx_then ?_)
      refine cw_block ?_
      refine cw_loop (fun m_q f_q w => ∃ (g_ : Nat → Value) (i : Nat) (xs : List UInt8), m_q = n15 - i ∧ f_q = (upd (upd (upd (upd (upd (upd (upd g_ 3 (.pointer (some ⟨bk1, 0, none⟩))) 5 (.pointer (some ⟨tb11, 0, none⟩))) 6 (.int .i64 ((id % 32 : Nat) : Int))) 7 (.slice A15 n15 c15)) 8 (.int .i64 0)) 45 (.int .i64 (n15 : Int))) 46 (.int .i64 (i : Int))) ∧ Sat [] w0 w [cOwnB 5 A15 n15 c15 xs, cStore 60 65 tb11 (s), cBlk bk1 27 (pgV p)] ∧ (i ≤ n15) ∧ (xs.length = n15)) (n15 - 0) ?_ ?_
      ·
        exact ⟨_, 0, _, rfl, (cutS (cutS (cutS (cutS (cutS (cutS (cutS rfl rfl) rfl) rfl) rfl) rfl) rfl) rfl), (((H.front 2 rfl).front 2 rfl).front 2 rfl), Nat.zero_le _, (H.rdB (k := 0) rfl).length⟩
      ·
        clear H
        rintro m_ f_ w ⟨g_, i, xs, rfl, rfl, H, hi, hx1⟩
        refine cw_seq ?_
        -- region 9 law.go:213
        refine cw_region (clf [.U]) [0] rfl (by kernel_rfl) (by decide) ?_
        refine TF.u (v := (.bool _)) rfl rfl (pr_lss rfl rfl) ?_
        refine TF.nil (nx_then ?_)
        refine cw_seq ?_
        refine cw_cond _ rfl rfl (fun hq18 => ?_) (fun hq18 => ?_)
        ·
          have hp18 := dT hq18
          refine cw_skip (nx_then ?_)
          refine cw_seq ?_
          refine cw_block ?_
          refine cw_seq ?_
          -- region 10 law.go:213
          refine cw_region (clf [.U, .U]) [0, 1] rfl (by kernel_rfl) (by decide) ?_
          refine TF.u (v := (.int .i64 _)) rfl rfl (pr_move rfl) ?_
          refine TF.u (v := (.int .i64 _)) rfl rfl (pr_assign rfl) ?_
          refine TF.nil (nx_then ?_)
          -- region 11 law.go:214
          refine cw_region (clf [.U, .U, .U, .X]) [0, 1, 2, 3] rfl (by kernel_rfl) (by decide) ?_
          refine TF.u (v := (.slice _ _ _)) rfl rfl (pr_move rfl) ?_
          refine TF.u (v := (.int .i64 _)) rfl rfl (pr_move rfl) ?_
          obtain ⟨g21, rfl⟩ := H.ownSome (k := 0) rfl (by omega)
          refine TF.u (v := (.pointer (some ⟨g21, _, none⟩))) rfl rfl (pr_idxO (b := g21) (o' := _) Try.underlying34 (Try.ty5.s) rfl rfl (by omega) (by omega) (Nat.mul_one _)) ?_
          refine TF.storeO (v := (u8 77)) (q := 0) H rfl rfl rfl (wantF_none rfl) (Try.ty5.s) rfl rfl rfl (by simp; omega) ?_
          clear H
          intro w ho22 H
          replace H : Sat _ _ _ [_, _, _] := H
          rw [u8s_set] at H
          refine TF.nil (nx_block (nx_then ?_))
          -- region 12 law.go:213
          refine cw_region (clf [.U, .U]) [0, 1] rfl (by kernel_rfl) (by decide) ?_
          refine TF.u (v := (.int .i64 _)) rfl rfl (pr_add rfl rfl (IntWalk.i64_in _ (by omega))) ?_
          refine TF.u (v := (.int .i64 _)) rfl rfl (pr_move rfl) ?_
          refine TF.nil (nx_loop (m' := n15 - (i + 1)) (by omega) ?_)
          exact ⟨_, i + 1, _, rfl, (cutS (cutS (cutS (cutS (cutS (cutS (cutS rfl rfl) rfl) rfl) rfl) rfl) rfl) rfl), H, by omega, by simpa using hx1⟩
        ·
          have hp18 := dF hq18
          refine cw_exit (ex_then (ex_then (ex_here (nx_then ?_))))
          refine cw_seq ?_
          -- region 13 law.go:216
          refine cw_region (clf [.U, .U, .X, .U, .U, .U, .X, .X, .U]) [0, 1, 2, 3, 4, 5, 6, 7, 8] rfl (by kernel_rfl) (by decide) ?_
          refine TF.u (v := (.pointer (some ⟨_, 0, none⟩))) rfl rfl (pr_move rfl) ?_
          refine TF.u (v := (.int .i64 _)) rfl rfl (pr_move rfl) ?_
          obtain ⟨F24, hF24, hU24⟩ := H.focus (k := 1) rfl
          refine TF.call (args := [(.pointer (some ⟨_, 0, none⟩)), (.int .i64 _)]) Try.fn15 rfl rfl (wantF_none rfl) rfl (sread_ok _ _ _ _ _ hF24 ok12 (by omega) (by omega)) ?_
          rintro e_ w ⟨rfl, hb23⟩
          refine ⟨_, rfl, ?_⟩
          replace H := H.below hb23
          refine TF.u (v := (.tuple _)) rfl rfl (pr_move rfl) ?_
          refine TF.u (v := (.agg ⟨pgV ((sRead s ((id % 32 : Nat) : Int)).1)⟩)) rfl rfl (pr_extract (vs := _) rfl rfl) ?_
          refine TF.u (v := (.int .i64 _)) rfl rfl (pr_extract (vs := _) rfl rfl) ?_
          refine TF.alloc H rfl (Cx.xx rfl) (wantF_none rfl) (Try.ty27) rfl ?_
          clear H
          intro bk25 w hltbk25 hb26 H
          replace H : Sat _ _ _ (cBlk _ _ (pgV noPg) :: _) := H
          replace H : Sat _ _ _ [_, _, _, _] := H
          refine TF.storeN (q := 0) (cs' := pgV ((sRead s ((id % 32 : Nat) : Int)).1)) H rfl rfl rfl (wantF_none rfl) (Try.ty27.s) rfl rfl (pgV_len (sRead_ok ok12 _).len) (pgV_one _) (by have h_ : (pgV noPg).length = 17 := (pgV_len noPg_ok.len); omega) (store_all (pgV_len noPg_ok.len)) ?_
          clear H
          intro w ho27 H
          replace H : Sat _ _ _ [_, _, _, _] := H
          refine TF.u (v := (.int .i64 _)) rfl rfl (pr_assign rfl) ?_
          refine TF.nil (nx_then ?_)
          refine cw_seq ?_
          -- region 14 law.go:217
          refine cw_region (clf [.U, .U, .U, .U, .U, .U, .U, .U, .U, .U, .U, .U, .X, .X, .U, .U, .U]) [0, 1, 2, 3, 4, 5, 6, 7, 8, 9, 10, 11, 12, 13, 14, 15, 16] rfl (by kernel_rfl) (by decide) ?_
          refine TF.u (v := (.int .i64 _)) rfl rfl (pr_move rfl) ?_
          refine TF.u (v := (.bool _)) rfl rfl (pr_eql rfl rfl) ?_
          refine TF.u (v := (.bool _)) rfl rfl (pr_move rfl) ?_
          refine TF.split (dj := 61) rfl ?_ (fun hq29 => by
              have hp29 := dF hq29
              exfalso
              first | omega | exact hp29 rfl | exact hp29 (by decide) | (simp at hp29; done))
          intro hq29
          have hp29 := dT hq29
          refine TF.ug (v := (.slice _ _ _)) rfl rfl (wantF_yes rfl rfl rfl hq29) (pr_move rfl) ?_
          refine TF.ug (v := (.int .i64 _)) rfl rfl (wantF_yes rfl rfl rfl hq29) (pr_len rfl Try.underlying34 rfl) ?_
          refine TF.ug (v := (.bool _)) rfl rfl (wantF_yes rfl rfl rfl hq29) (pr_eql rfl rfl) ?_
          refine TF.u (v := (.bool _)) rfl rfl (pr_pickT rfl hq29 rfl) ?_
          refine TF.u (v := (.bool _)) rfl rfl (pr_move rfl) ?_
          refine TF.split (dj := 66) rfl ?_ (fun hq31 => by
              have hp31 := dF hq31
              exfalso
              first | omega | exact hp31 rfl | exact hp31 (by decide) | (simp at hp31; done))
          intro hq31
          have hp31 := dT hq31
          refine TF.ug (v := (.int .i64 _)) rfl rfl (wantF_yes rfl rfl rfl hq31) (pr_move rfl) ?_
          refine TF.ug (v := (.bool _)) rfl rfl (wantF_yes rfl rfl rfl hq31) (pr_eql rfl rfl) ?_
          refine TF.u (v := (.bool _)) rfl rfl (pr_pickT rfl hq31 rfl) ?_
          refine TF.u (v := (.bool _)) rfl rfl (pr_move rfl) ?_
          refine TF.split (dj := 70) rfl ?_ (fun hq33 => by
              have hp33 := dF hq33
              exfalso
              rw [kw2] at hp33; exact hp33 rfl)
          intro hq33
          have hp33 := dT hq33
          refine TF.loadE (cs' := pgV ((sRead s ((id % 32 : Nat) : Int)).1)) rfl rfl (wantF_yes rfl rfl rfl hq33) (Try.ty27.s) rfl rfl (H.blk (k := 0) rfl) (pgV_len (sRead_ok ok12 _).len) (pgV_all (sRead_ok ok12 _).len) ?_
          refine TF.loadE (cs' := pgV p) rfl rfl (wantF_yes rfl rfl rfl hq33) (Try.ty27.s) rfl rfl (H.blk (k := 3) rfl) (pgV_len ok_p.len) (pgV_all ok_p.len) ?_
          refine TF.ug (v := (.bool _)) rfl rfl (wantF_yes rfl rfl rfl hq33) (run_eqlA (xs := pgV ((sRead s ((id % 32 : Nat) : Int)).1)) (ys := pgV p) (EqV.page Try.underlying27 (by kernel_rfl) rfl rfl Try.underlying24 rfl (by kernel_rfl) rfl (sRead_ok ok12 _).len ok_p.len) (by decide) (by kernel_rfl) rfl rfl) ?_
          refine TF.u (v := (.bool _)) rfl rfl (pr_pickT rfl hq33 rfl) ?_
          refine TF.u (v := (.bool _)) rfl rfl (pr_assign rfl) ?_
          refine TF.nil (nx_then ?_)
          refine cw_ret (fin1 (v := (.bool _)) Try.results3 rfl rfl ?_)
          exact ⟨by rw [kw2]; simp, H.base⟩
end Go.Proofs.Ytpncaeadbfdflaa
namespace Go.Proofs.Ytpncaeadbfdflaa
open Go.ChangeShapes Go.WideShapes Go.ChangeAt Go.RowKit
open Go.ChangeMaps (open_string shut_string)
theorem storeKeeps_own : ownKnob Try.prog.godebug = none := by kernel_rfl
theorem storeKeeps_laid : laidOutB Try.prog = true := by kernel_rfl
set_option maxRecDepth 100000 in
theorem storeKeeps_lifted (os : Os) (started : os.Started) (H : Type) (enc : TypeId × Value → H) :
    ReturnsInHanded {} Try.checked os 3 .any (Rows.storeKeepsSpec.pre6 enc Try.prog Try.f3 Rows.storeKeepsRow.domain false) (Rows.storeKeepsSpec.post enc Try.prog Try.f3 false true false false) := by
  refine returnsInHanded_of_change_sized (C := Try.checked) storeKeeps_own started (by kernel_rfl) Try.func3
    (ChangeSpec.witness6 (enc := enc) (C := Try.checked) false ⟨#[], #[.int .u8 0, .agg #[(.int .u64 0), (.bool false), (.string ⟨⟨[]⟩⟩), (.bool false), (.string ⟨⟨[]⟩⟩), (.bool false), (.string ⟨⟨[]⟩⟩), (.bool false), (.string ⟨⟨[]⟩⟩), (.bool false), (.string ⟨⟨[]⟩⟩), (.bool false), (.string ⟨⟨[]⟩⟩), (.bool false), (.string ⟨⟨[]⟩⟩), (.bool false), (.string ⟨⟨[]⟩⟩)]], []⟩ 8 (by kernel_rfl) (by kernel_rfl) (by kernel_rfl) (by kernel_rfl)) ?_
  intro W base args ds gs before hval0 hW hcnd hsz0 _
  have hval : ∀ (j : Nat) t v, Try.f3.params[j]? = some t → args[j]? = some v → Value.okWide Try.prog W .any base t v := hval0
  have hW' := hW
  obtain ⟨p, q, hA0, hV, rfl, hfz, hnd⟩ := hW
  have hA : DataW.TrodAll enc Try.prog W 0 (fun _ => true) true Try.f3.params.toList args.toList ds p := hA0
  have hsz : (DataW.weightsEach Try.prog (Try.f3.params.toList ++ Rows.storeKeepsSpec.plain.varTypes Try.prog) (ds ++ gs)).all (· ≤ reachBytes) = true := hsz0
  rw [Try.params3] at hA hval hsz
  obtain ⟨v0, vs0, d0, ds0, p0, q0, hargs, rfl, rfl, h0, r0⟩ := trodAll_cons hA
  obtain ⟨v1, vs1, d1, ds1, p1, q1, rfl, rfl, rfl, h1, r1⟩ := trodAll_cons r0
  obtain ⟨rfl, rfl, rfl⟩ := trodAll_nil r1
  obtain rfl : args = #[v0, v1] := by cases args; simp_all
  obtain ⟨rfl, rfl⟩ := trodVars_none hV
  obtain ⟨a0, rfl, rfl, rfl, m0⟩ := open_int Try.underlying5 (hval 0 5 v0 rfl rfl) h0
  have z0 := bounds_u8 m0
  obtain ⟨b0, rfl⟩ := Int.eq_ofNat_of_zero_le z0.1
  have k1 := h1
  have lt1 : ∀ x ∈ p1, x.block < W.heap.size := by obtain ⟨m, hm⟩ := k1; exact DataW.trod_lt m _ _ _ hm
  obtain ⟨fu1, hf1⟩ := h1
  obtain ⟨⟨l1⟩, rfl, hc1⟩ := okWide_struct Try.underlying27 (hval 1 27 v1 rfl rfl)
  obtain ⟨a1, hl1, ok1⟩ := Go.Q.OT.page (P := Try.prog) (t := 27) (cs := l1) ⟨fu1, _, hf1⟩ Try.underlying27 rfl Try.underlying22 Try.underlying25 Try.underlying24 rfl Try.underlying4 Try.underlying9 (by kernel_rfl)
  subst hl1
  clear hA0 hval0
  refine (StoreKeeps_ok b0 a1 W (by omega) ok1).mono fun e W' ⟨he, bel⟩ => ?_
  subst he
  exact ⟨_, rfl, _, _, _, [], _, [], hW', trodAll_mk1 (shut_bool Try.underlying4 _), (trodAll_cons_mk (shut_int Try.underlying5 m0) (trodAll_cons_mk (Below.trod storeKeeps_laid (by kernel_rfl) (of_decide_eq_true (by kernel_rfl)) k1 bel lt1) trodAll_mk0)), rfl, bel.frame _, fun h => by cases h⟩
theorem storeKeeps_holds : Rows.StoreKeepsSaid :=
  OpenClaim.holds_of_wide 3 Try.f3 rfl rfl rfl rfl rfl rfl rfl ⟨rfl, rfl, rfl, rfl, rfl⟩ rfl rfl rfl rfl rfl (by kernel_rfl) Try.func3 (by kernel_rfl)
    (of_decide_eq_true (by kernel_rfl)) (by unfold Func.isWrapper; first | (rw [if_pos (by decide +kernel)]; kernel_rfl) | (rw [if_neg (by decide +kernel)]; exact ⟨rfl, rfl⟩))
    (fun os started H enc _ => storeKeeps_lifted os started H enc)
end Go.Proofs.Ytpncaeadbfdflaa
