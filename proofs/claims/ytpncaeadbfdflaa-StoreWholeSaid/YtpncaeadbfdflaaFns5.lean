/- What the functions of this seat compute, each walked once (no condition but those in each statement): quaysidelaw10.awake, quaysidelaw10.alike, quaysidelaw10.does -/
import Derived.Test.YtpncaeadbfdflaaCore7
import Derived.Test.YtpncaeadbfdflaaMath
import Derived.Test.YtpncaeadbfdflaaMath1
import Derived.Test.YtpncaeadbfdflaaCrc
import Derived.Test.YtpncaeadbfdflaaCrc2
import Derived.Test.YtpncaeadbfdflaaCrc3
import Derived.Test.YtpncaeadbfdflaaCore8
import Derived.Test.YtpncaeadbfdflaaCore9
import Derived.Test.YtpncaeadbfdflaaCore10
import Derived.Test.YtpncaeadbfdflaaCore11
import Derived.Test.YtpncaeadbfdflaaPage
import Derived.Test.YtpncaeadbfdflaaPageV
import Derived.Test.YtpncaeadbfdflaaArgs
import Derived.Test.YtpncaeadbfdflaaPage2
import Derived.Test.YtpncaeadbfdflaaArgsP
import Derived.Test.YtpncaeadbfdflaaCore12
import Derived.Test.YtpncaeadbfdflaaPage3
import Derived.Test.YtpncaeadbfdflaaCore13
import Derived.Test.YtpncaeadbfdflaaCore14
import Derived.Test.YtpncaeadbfdflaaStore
import Derived.Test.YtpncaeadbfdflaaStoreV
import Derived.Test.YtpncaeadbfdflaaStoreR
import Derived.Test.YtpncaeadbfdflaaStoreS
import Derived.Test.YtpncaeadbfdflaaStoreL
import Derived.Test.YtpncaeadbfdflaaProg
import Derived.KernelRfl
import Derived.Test.YtpncaeadbfdflaaFns4
set_option linter.unusedSimpArgs false
set_option linter.unusedVariables false
set_option maxRecDepth 10000
namespace Go.Proofs.Ytpncaeadbfdflaa
open Go.Q Go.RowKit Go.Proofs
theorem Try.fn12 : Fnc Try.prog 12 Try.f12 := ⟨Try.func12, by kernel_rfl, by kernel_rfl⟩
theorem Try.fn13 : Fnc Try.prog 13 Try.f13 := ⟨Try.func13, by kernel_rfl, by kernel_rfl⟩
theorem Try.fn14 : Fnc Try.prog 14 Try.f14 := ⟨Try.func14, by kernel_rfl, by kernel_rfl⟩
theorem Try.fn15 : Fnc Try.prog 15 Try.f15 := ⟨Try.func15, by kernel_rfl, by kernel_rfl⟩
theorem Try.fn16 : Fnc Try.prog 16 Try.f16 := ⟨Try.func16, by kernel_rfl, by kernel_rfl⟩
theorem Try.fn18 : Fnc Try.prog 18 Try.f18 := ⟨Try.func18, by kernel_rfl, by kernel_rfl⟩
theorem Try.fn21 : Fnc Try.prog 21 Try.f21 := ⟨Try.func21, by kernel_rfl, by kernel_rfl⟩
theorem Try.fn37 : Fnc Try.prog 37 Try.f37 := ⟨Try.func37, by kernel_rfl, by kernel_rfl⟩
theorem Try.fn38 : Fnc Try.prog 38 Try.f38 := ⟨Try.func38, by kernel_rfl, by kernel_rfl⟩
theorem Try.fn39 : Fnc Try.prog 39 Try.f39 := ⟨Try.func39, by kernel_rfl, by kernel_rfl⟩
theorem awake_ok (w0 : World) : Calls Try.prog 10 #[] w0 fun e w => e = .returned (.bool true) ∧ Below w0.heap.size w0 w := by
  obtain ⟨aw1, aw2, aw3⟩ := sWrite_first (pages := 2) (n := 0) (id := 1) (p := (PG.mk 5 noPg.cells)) (noPg_ok.setLsn (by decide)) (by decide) (by decide) (by decide) (by decide) (by decide)
  refine enter (args := []) Try.func10 rfl Try.ntmps10 rfl ?_
  have H := Sat.start w0
  refine cw_seq ?_
  -- region 0 law.go:18
  refine cw_region (clf [.U]) [0] rfl (by kernel_rfl) (by decide) ?_
  refine TF.u (v := (.bool _)) rfl rfl (pr_assign rfl) ?_
  refine TF.nil (nx_then ?_)
  refine cw_seq ?_
  -- region 1 law.go:19
  refine cw_region (clf [.X, .U]) [0, 1] rfl (by kernel_rfl) (by decide) ?_
  refine TF.call (args := [(.int .i64 _)]) Try.fn12 rfl rfl (wantF_none rfl) rfl (snew_ok 2 _ (by omega) (by omega)) ?_
  rintro e_ w ⟨tb1, rfl, hn1, ok1⟩
  refine ⟨_, rfl, ?_⟩
  replace H := H.newC hn1
  replace H : Sat _ _ _ [_] := H
  refine TF.u (v := (.pointer (some ⟨_, 0, none⟩))) rfl rfl (pr_assign rfl) ?_
  refine TF.nil (nx_then ?_)
  refine cw_seq ?_
  refine cw_seq ?_
  -- region 2 law.go:20
  refine cw_region (clf [.U, .U, .U, .U, .U, .X, .U, .U]) [0, 1, 2, 3, 4, 5, 6, 7] rfl (by kernel_rfl) (by decide) ?_
  refine TF.u (v := (.pointer (some ⟨_, 0, none⟩))) rfl rfl (pr_move rfl) ?_
  refine TF.u (v := (.bool _)) rfl rfl (pr_peql Try.underlying30 rfl rfl) ?_
  refine TF.u (v := (.bool _)) rfl rfl (pr_move rfl) ?_
  refine TF.ug (v := (.pointer (some ⟨_, 0, none⟩))) rfl rfl (wantF_yes rfl rfl rfl rfl) (pr_move rfl) ?_
  refine TF.ug (v := (.agg ⟨pgV (PG.mk 5 noPg.cells)⟩)) rfl rfl (wantF_yes rfl rfl rfl rfl) (pr_build (cs := pgV (PG.mk 5 noPg.cells)) Try.bld27 rfl rfl) ?_
  obtain ⟨F2, hF2, hU2⟩ := H.focus (k := 0) rfl
  refine TF.call (args := [(.pointer (some ⟨_, 0, none⟩)), (.int .i64 _), (.int .i64 _), (.agg ⟨pgV (PG.mk 5 noPg.cells)⟩), (.int .i64 _)]) Try.fn13 rfl rfl (wantF_yes rfl rfl rfl rfl) rfl (swrite_ok _ _ _ _ _ _ (PG.mk 5 noPg.cells) (noPg_ok.setLsn (by decide)) _ hF2 ok1 (by omega) (by omega) (by omega) (by omega) (by omega) (by omega)) ?_
  rintro e_ w ⟨rfl, hu2, ok2⟩
  refine ⟨_, rfl, ?_⟩
  replace H := hU2 hu2
  replace H : Sat _ _ _ [_] := H
  refine TF.ug (v := (.bool _)) rfl rfl (wantF_yes rfl rfl rfl rfl) (pr_neq rfl rfl) ?_
  refine TF.u (v := (.bool _)) rfl rfl (pr_pickF rfl rfl rfl) ?_
  refine TF.nil (nx_then ?_)
  refine cw_cond _ rfl rfl (fun hq4 => by
      have hp4 := dF (nT hq4)
      exfalso
      exact hp4 aw1) ?_
  intro hq4
  have hp4 := dT (nF hq4)
  refine cw_skip (nx_then ?_)
  refine cw_seq ?_
  -- region 4 law.go:23
  refine cw_region (clf [.U, .X, .U, .U, .U, .X, .X, .U]) [0, 1, 2, 3, 4, 5, 6, 7] rfl (by kernel_rfl) (by decide) ?_
  refine TF.u (v := (.pointer (some ⟨_, 0, none⟩))) rfl rfl (pr_move rfl) ?_
  obtain ⟨F6, hF6, hU6⟩ := H.focus (k := 0) rfl
  refine TF.call (args := [(.pointer (some ⟨_, 0, none⟩)), (.int .i64 _)]) Try.fn15 rfl rfl (wantF_none rfl) rfl (sread_ok _ _ _ _ _ hF6 ok2 (by omega) (by omega)) ?_
  rintro e_ w ⟨rfl, hb5⟩
  refine ⟨_, rfl, ?_⟩
  replace H := H.below hb5
  refine TF.u (v := (.tuple _)) rfl rfl (pr_move rfl) ?_
  refine TF.u (v := (.agg ⟨pgV ((sRead (sWrite (sNew 2) 0 1 (PG.mk 5 noPg.cells) 15).1 1).1)⟩)) rfl rfl (pr_extract (vs := _) rfl rfl) ?_
  refine TF.u (v := (.int .i64 _)) rfl rfl (pr_extract (vs := _) rfl rfl) ?_
  refine TF.alloc H rfl (Cx.xx rfl) (wantF_none rfl) (Try.ty27) rfl ?_
  clear H
  intro bk7 w hltbk7 hb8 H
  replace H : Sat _ _ _ (cBlk _ _ (pgV noPg) :: _) := H
  replace H : Sat _ _ _ [_, _] := H
  refine TF.storeN (q := 0) (cs' := pgV ((sRead (sWrite (sNew 2) 0 1 (PG.mk 5 noPg.cells) 15).1 1).1)) H rfl rfl rfl (wantF_none rfl) (Try.ty27.s) rfl rfl (pgV_len (sRead_ok ok2 _).len) (pgV_one _) (by have h_ : (pgV noPg).length = 17 := (pgV_len noPg_ok.len); omega) (store_all (pgV_len noPg_ok.len)) ?_
  clear H
  intro w ho9 H
  replace H : Sat _ _ _ [_, _] := H
  refine TF.u (v := (.int .i64 _)) rfl rfl (pr_assign rfl) ?_
  refine TF.nil (nx_then ?_)
  refine cw_seq ?_
  -- region 5 law.go:24
  refine cw_region (clf [.U, .U, .U, .U, .X, .U, .U, .U, .U, .X, .U, .U, .U]) [0, 1, 2, 3, 4, 5, 6, 7, 8, 9, 10, 11, 12] rfl (by kernel_rfl) (by decide) ?_
  refine TF.u (v := (.int .i64 _)) rfl rfl (pr_move rfl) ?_
  refine TF.u (v := (.bool _)) rfl rfl (pr_eql rfl rfl) ?_
  refine TF.u (v := (.bool _)) rfl rfl (pr_move rfl) ?_
  refine TF.split (dj := 20) rfl ?_ (fun hq11 => by
      have hp11 := dF hq11
      exfalso
      exact hp11 (congrArg Prod.snd aw2))
  intro hq11
  have hp11 := dT hq11
  refine TF.ug (v := (.pointer (some ⟨_, 0, none⟩))) rfl rfl (wantF_yes rfl rfl rfl hq11) (pr_field (o' := 0) Try.underlying27 rfl (Try.ty22.s) (by decide) rfl rfl) ?_
  refine TF.load (v := (.int .u64 (((sRead (sWrite (sNew 2) 0 1 (PG.mk 5 noPg.cells) 15).1 1).1).lsn : Int))) rfl rfl (wantF_yes rfl rfl rfl hq11) Try.underlying22 rfl rfl ((H.blk (k := 0) rfl).at_ rfl) ?_
  refine TF.ug (v := (.bool _)) rfl rfl (wantF_yes rfl rfl rfl hq11) (pr_eql rfl rfl) ?_
  refine TF.u (v := (.bool _)) rfl rfl (pr_pickT rfl hq11 rfl) ?_
  refine TF.u (v := (.bool _)) rfl rfl (pr_move rfl) ?_
  refine TF.split (dj := 25) rfl ?_ (fun hq13 => by
      have hp13 := dF hq13
      exfalso
      rw [aw2] at hp13; exact hp13 rfl)
  intro hq13
  have hp13 := dT hq13
  refine TF.ug (v := (.pointer (some ⟨_, 0, none⟩))) rfl rfl (wantF_yes rfl rfl rfl hq13) (pr_move rfl) ?_
  obtain ⟨F15, hF15, hU15⟩ := H.focus (k := 1) rfl
  refine TF.call (args := [(.pointer (some ⟨_, 0, none⟩))]) Try.fn17 rfl rfl (wantF_yes rfl rfl rfl hq13) rfl (spages_ok _ _ _  _ hF15 ok2 ) ?_
  rintro e_ w ⟨rfl, hb14⟩
  refine ⟨_, rfl, ?_⟩
  replace H := H.below hb14
  refine TF.ug (v := (.bool _)) rfl rfl (wantF_yes rfl rfl rfl hq13) (pr_eql rfl rfl) ?_
  refine TF.u (v := (.bool _)) rfl rfl (pr_pickT rfl hq13 rfl) ?_
  refine TF.u (v := (.bool _)) rfl rfl (pr_assign rfl) ?_
  refine TF.nil (nx_then ?_)
  refine cw_ret (fin1 (v := (.bool _)) Try.results10 rfl rfl ?_)
  exact ⟨by rw [aw3]; rfl, H.base⟩

theorem alike_ok (sb rb : Nat) (s r : SS) (F1 F2 : List Nat) (w0 : World) (hF1 : (cStore 60 65 sb (s)).p w0 F1) (hF2 : (cRStore 9 92 rb (r)).p w0 F2) (hR : SRel s r) :
    Calls Try.prog 21 #[.pointer (some ⟨sb, 0, none⟩), .pointer (some ⟨rb, 0, none⟩)] w0 fun e w => e = .returned (.bool true) ∧ Below w0.heap.size w0 w := by
  refine enter (args := [.pointer (some ⟨sb, 0, none⟩), .pointer (some ⟨rb, 0, none⟩)]) Try.func21 rfl Try.ntmps21 rfl ?_
  have H := Sat.start w0
  obtain ⟨A, n_, c, hblk, hrow⟩ := cRStore_rd hF2
  have hn_ : r.pl.length = n_ := rrow_len hrow
  have hpl := hR.pl
  have hl8 := hR.rok.ar
  have hp32 : n_ ≤ 32 := by have h_ := hR.inv.ok.pl2; rw [hpl] at h_; omega
  refine cw_seq ?_
  -- region 0 law.go:28
  refine cw_region (clf [.U]) [0] rfl (by kernel_rfl) (by decide) ?_
  refine TF.u (v := (.bool _)) rfl rfl (pr_assign rfl) ?_
  refine TF.nil (nx_then ?_)
  refine cw_seq ?_
  refine cw_seq ?_
  -- region 1 law.go:29
  refine cw_drawS H Try.wide_ (clf [.U, .P, .U, .U, .U, .R, .U, .U]) [0, 2, 3, 4, 5, 6, 1, 7] (by kernel_rfl) (by kernel_rfl) ?_
  clear H
  intro w hbr H hB
  refine TF.u (v := (.pointer (some ⟨_, 0, none⟩))) rfl rfl (pr_move rfl) ?_
  refine TF.u (v := (.pointer (some ⟨_, 0, none⟩))) rfl rfl (pr_move rfl) ?_
  refine TF.u (v := (.pointer (some _))) rfl rfl (pr_nil rfl) ?_
  refine TF.u (v := (.pointer (some ⟨_, 0, none⟩))) rfl rfl (pr_field (o' := 0) Try.underlying92 rfl (Try.ty87.s) (by decide) rfl rfl) ?_
  refine TF.loadr (v := (.slice A n_ c)) rfl rfl (wantF_none rfl) Try.underlying87 rfl rfl ((hblk.below H.base).atB rfl) ?_
  refine TF.u (v := (.int .i64 _)) rfl rfl (pr_len rfl Try.underlying87 rfl) ?_
  refine TF.callp (args := [(.pointer (some ⟨_, 0, none⟩))]) Try.fn17 rfl rfl (wantF_none rfl) rfl (spages_ok _ _ _  _ (Chk.belowS _ hF1 H.base) hR.inv.ok ) ?_
  rintro e_ w ⟨rfl, hb1⟩
  refine ⟨_, rfl, fun x => Below w.heap.size w x, fun x hx => below_trans (below_trans hB hb1) hx, Below.refl _ _, ?_⟩
  replace hB := Below.refl w.heap.size w
  replace H := H.below hb1
  refine TF.u (v := (.bool _)) rfl rfl (pr_neq rfl rfl) ?_
  clear hB
  refine TF.nil (nx_then ?_)
  refine cw_cond _ rfl rfl (fun hq3 => by
      have hp3 := dF (nT hq3)
      exfalso
      rw [hpl, hn_] at hp3; exact hp3 rfl) ?_
  intro hq3
  have hp3 := dT (nF hq3)
  refine cw_skip (nx_then ?_)
  refine cw_seq ?_
  refine cw_seq ?_
  -- region 3 law.go:32
  refine cw_region (clf [.U, .U, .U, .X, .U, .U]) [0, 1, 2, 3, 4, 5] rfl (by kernel_rfl) (by decide) ?_
  refine TF.u (v := (.pointer (some ⟨_, 0, none⟩))) rfl rfl (pr_move rfl) ?_
  refine TF.u (v := (.pointer (some _))) rfl rfl (pr_nil rfl) ?_
  refine TF.u (v := (.pointer (some ⟨_, 0, none⟩))) rfl rfl (pr_field (o' := 0) Try.underlying92 rfl (Try.ty87.s) (by decide) rfl rfl) ?_
  refine TF.load (v := (.slice A n_ c)) rfl rfl (wantF_none rfl) Try.underlying87 rfl rfl ((hblk.below H.base).at_ rfl) ?_
  refine TF.u (v := (.int .i64 _)) rfl rfl (pr_len rfl Try.underlying87 rfl) ?_
  refine TF.u (v := (.int .i64 _)) rfl rfl (pr_move rfl) ?_
  refine TF.nil (nx_then ?_)
  refine cw_block ?_
  refine cw_loop (fun m_q f_q w => ∃ (g_ : Nat → Value) (i : Nat), m_q = n_ - i ∧ f_q = (upd (upd (upd (upd g_ 0 (.pointer (some ⟨sb, 0, none⟩))) 1 (.pointer (some ⟨rb, 0, none⟩))) 21 (.int .i64 (n_ : Int))) 22 (.int .i64 (i : Int))) ∧ Sat [] w0 w [] ∧ (i ≤ n_)) (n_ - 0) ?_ ?_
  ·
    exact ⟨_, 0, rfl, (cutS (cutS (cutS (cutS rfl rfl) rfl) rfl) rfl), H, Nat.zero_le _⟩
  ·
    clear H
    rintro m_ f_ w ⟨g_, i, rfl, rfl, H, hi⟩
    refine cw_seq ?_
    -- region 4 law.go:32
    refine cw_region (clf [.U]) [0] rfl (by kernel_rfl) (by decide) ?_
    refine TF.u (v := (.bool _)) rfl rfl (pr_lss rfl rfl) ?_
    refine TF.nil (nx_then ?_)
    refine cw_seq ?_
    refine cw_cond _ rfl rfl (fun hq5 => ?_) (fun hq5 => ?_)
    ·
      have hp5 := dT hq5
      refine cw_skip (nx_then ?_)
      refine cw_seq ?_
      refine cw_block ?_
      refine cw_seq ?_
      -- region 5 law.go:32
      refine cw_region (clf [.U, .U]) [0, 1] rfl (by kernel_rfl) (by decide) ?_
      obtain ⟨x, hx⟩ : ∃ x, r.pl[i]? = some x := ⟨_, List.getElem?_eq_getElem (by omega)⟩
      have hsi := hR.image hx
      refine TF.u (v := (.int .i64 _)) rfl rfl (pr_move rfl) ?_
      refine TF.u (v := (.int .i64 _)) rfl rfl (pr_assign rfl) ?_
      refine TF.nil (nx_then ?_)
      refine cw_seq ?_
      -- region 6 law.go:33
      refine cw_region (clf [.U, .U, .X, .U, .U, .U, .U, .U]) [0, 1, 2, 3, 4, 5, 6, 7] rfl (by kernel_rfl) (by decide) ?_
      refine TF.u (v := (.pointer (some ⟨_, 0, none⟩))) rfl rfl (pr_move rfl) ?_
      refine TF.u (v := (.int .i64 _)) rfl rfl (pr_move rfl) ?_
      refine TF.call (args := [(.pointer (some ⟨_, 0, none⟩)), (.int .i64 _)]) Try.fn14 rfl rfl (wantF_none rfl) rfl (simage_ok _ _ _ _ _ (Chk.belowS _ hF1 H.base) hR.inv.ok (by omega) (by omega)) ?_
      rintro e_ w ⟨A6, n6, c6, rfl, hn6⟩
      refine ⟨_, rfl, ?_⟩
      replace H := H.newS hn6
      refine TF.u (v := (.tuple _)) rfl rfl (pr_move rfl) ?_
      refine TF.u (v := (.slice _ _ _)) rfl rfl (pr_extract (vs := _) rfl rfl) ?_
      refine TF.u (v := (.int .i64 _)) rfl rfl (pr_extract (vs := _) rfl rfl) ?_
      refine TF.u (v := (.slice _ _ _)) rfl rfl (pr_assign rfl) ?_
      refine TF.u (v := (.int .i64 _)) rfl rfl (pr_assign rfl) ?_
      refine TF.nil (nx_then ?_)
      refine cw_seq ?_
      -- region 7 law.go:34
      refine cw_drawS H Try.wide_ (clf [.U, .U, .U, .U, .R, .U, .U, .U, .R, .U, .U, .R, .U, .U]) [0, 1, 2, 3, 4, 5, 6, 7, 8, 9, 10, 11, 12, 13] (by kernel_rfl) (by kernel_rfl) ?_
      clear H
      intro w hbr H hB
      rw [hsi] at H
      refine TF.u (v := (.int .i64 _)) rfl rfl (pr_move rfl) ?_
      refine TF.u (v := (.bool _)) rfl rfl (pr_neq rfl rfl) ?_
      refine TF.u (v := (.bool _)) rfl rfl (pr_move rfl) ?_
      refine TF.split (dj := 33) rfl (fun hq9 => by
          have hp9 := dF (nT hq9)
          exfalso
          rw [hsi] at hp9; exact hp9 rfl) ?_
      intro hq9
      have hp9 := dT (nF hq9)
      refine TF.ug (v := (.slice _ _ _)) rfl rfl (wantF_yes rfl rfl rfl hq9) (pr_move rfl) ?_
      refine TF.tostrr (RdS.all (H.rd (k := 0) rfl)) rfl rfl (wantF_yes rfl rfl rfl hq9) Try.underlying34 Try.underlying5 Try.underlying9 rfl ?_
      refine TF.ug (v := (.pointer (some ⟨_, 0, none⟩))) rfl rfl (wantF_yes rfl rfl rfl hq9) (pr_move rfl) ?_
      refine TF.ug (v := (.pointer (some _))) rfl rfl (wantF_yes rfl rfl rfl hq9) (pr_nil rfl) ?_
      refine TF.ug (v := (.pointer (some ⟨_, 0, none⟩))) rfl rfl (wantF_yes rfl rfl rfl hq9) (pr_field (o' := 0) Try.underlying92 rfl (Try.ty87.s) (by decide) rfl rfl) ?_
      refine TF.loadr (v := (.slice A n_ c)) rfl rfl (wantF_yes rfl rfl rfl hq9) Try.underlying87 rfl rfl ((hblk.below H.base).atB rfl) ?_
      refine TF.ug (v := (.int .i64 _)) rfl rfl (wantF_yes rfl rfl rfl hq9) (pr_move rfl) ?_
      refine TF.idx (hrow.below H.base) rfl rfl (wantF_yes rfl rfl rfl hq9) Try.underlying87 (Try.ty9.s) rfl rfl (by omega) (by omega) ?_
      intro p_ hc_
      replace hc_ : World.cell? _ p_ = some (T x) := (by have h_ := hc_ 0 (T x) (by decide) (by simpa using str_at hx); rwa [add_zero] at h_)
      refine TF.loadr (v := (T x)) rfl rfl (wantF_yes rfl rfl rfl hq9) Try.underlying9 rfl rfl (cellB hc_) ?_
      refine TF.ug (v := (.bool _)) rfl rfl (wantF_yes rfl rfl rfl hq9) (pr_sneq rfl rfl) ?_
      refine TF.u (v := (.bool _)) rfl rfl (pr_pickF rfl hq9 rfl) ?_
      clear hB
      refine TF.nil (nx_then ?_)
      refine cw_cond _ rfl rfl (fun hq11 => by
          have hp11 := eF (nT hq11)
          exfalso
          exact hp11 rfl) ?_
      intro hq11
      have hp11 := eT (nF hq11)
      refine cw_skip (nx_block (nx_then ?_))
      -- region 9 law.go:32
      refine cw_region (clf [.U, .U]) [0, 1] rfl (by kernel_rfl) (by decide) ?_
      refine TF.u (v := (.int .i64 _)) rfl rfl (pr_add rfl rfl (IntWalk.i64_in _ (by omega))) ?_
      refine TF.u (v := (.int .i64 _)) rfl rfl (pr_move rfl) ?_
      refine TF.nil (nx_loop (m' := n_ - (i + 1)) (by omega) ?_)
      exact ⟨_, i + 1, rfl, (cutS (cutS (cutS (cutS rfl rfl) rfl) rfl) rfl), (H.del 0), by omega⟩
    ·
      have hp5 := dF hq5
      refine cw_exit (ex_then (ex_then (ex_here (nx_then ?_))))
      refine cw_seq ?_
      refine cw_seq ?_
      -- region 10 law.go:38
      refine cw_region (clf [.U]) [0] rfl (by kernel_rfl) (by decide) ?_
      refine TF.u (v := (.int .i64 _)) rfl rfl (pr_move rfl) ?_
      refine TF.nil (nx_then ?_)
      refine cw_block ?_
      refine cw_loop (fun m_q f_q w => ∃ (g_ : Nat → Value) (i : Nat), m_q = 8 - i ∧ f_q = (upd (upd (upd g_ 0 (.pointer (some ⟨sb, 0, none⟩))) 1 (.pointer (some ⟨rb, 0, none⟩))) 46 (.int .i64 (i : Int))) ∧ Sat [] w0 w [] ∧ (i ≤ 8)) (8 - 0) ?_ ?_
      ·
        exact ⟨_, 0, rfl, (cutS (cutS (cutS rfl rfl) rfl) rfl), H, Nat.zero_le _⟩
      ·
        clear H
        rintro m_ f_ w ⟨g_, i, rfl, rfl, H, hi⟩
        refine cw_seq ?_
        -- region 11 law.go:38
        refine cw_region (clf [.U]) [0] rfl (by kernel_rfl) (by decide) ?_
        refine TF.u (v := (.bool _)) rfl rfl (pr_lss rfl rfl) ?_
        refine TF.nil (nx_then ?_)
        refine cw_seq ?_
        refine cw_cond _ rfl rfl (fun hq13 => ?_) (fun hq13 => ?_)
        ·
          have hp13 := dT hq13
          refine cw_skip (nx_then ?_)
          refine cw_seq ?_
          refine cw_block ?_
          refine cw_seq ?_
          -- region 12 law.go:38
          refine cw_region (clf [.U, .U]) [0, 1] rfl (by kernel_rfl) (by decide) ?_
          obtain ⟨b_, hb_⟩ : ∃ b, r.ar[i]? = some b := ⟨_, List.getElem?_eq_getElem (by omega)⟩
          have hso := sOut_eq hR hb_
          refine TF.u (v := (.int .i64 _)) rfl rfl (pr_move rfl) ?_
          refine TF.u (v := (.int .i64 _)) rfl rfl (pr_assign rfl) ?_
          refine TF.nil (nx_then ?_)
          refine cw_seq ?_
          -- region 13 law.go:39
          refine cw_drawS H Try.wide_ (clf [.U, .U, .P, .U, .U, .U, .U, .U, .U, .R, .U]) [0, 1, 3, 4, 5, 6, 7, 8, 9, 2, 10] (by kernel_rfl) (by kernel_rfl) ?_
          clear H
          intro w hbr H hB
          refine TF.u (v := (.pointer (some ⟨_, 0, none⟩))) rfl rfl (pr_move rfl) ?_
          refine TF.u (v := (.int .i64 _)) rfl rfl (pr_move rfl) ?_
          refine TF.u (v := (.pointer (some ⟨_, 0, none⟩))) rfl rfl (pr_move rfl) ?_
          refine TF.u (v := (.int .i64 _)) rfl rfl (pr_move rfl) ?_
          refine TF.u (v := (.pointer (some _))) rfl rfl (pr_nil rfl) ?_
          refine TF.u (v := (.pointer (some ⟨_, 1, none⟩))) rfl rfl (pr_field (o' := 1) Try.underlying92 rfl (Try.ty90.s) (by decide) rfl rfl) ?_
          obtain ⟨o14, ho14⟩ : ∃ o, r.ar[i]? = some o := ⟨_, List.getElem?_eq_getElem (by rw [hR.rok.ar]; omega)⟩
          obtain rfl : o14 = b_ := Option.some.inj (ho14.symm.trans hb_)
          refine TF.u (v := (.pointer (some ⟨_, _, none⟩))) rfl rfl (pr_idxA Try.underlying90 (Try.ty89.s) rfl rfl (by omega) (by omega)) ?_
          refine TF.u (v := (.pointer (some ⟨_, _, none⟩))) rfl rfl (pr_field (o' := _) Try.underlying89 rfl (Try.ty4.s) (by decide) rfl rfl) ?_
          refine TF.loadr (v := (.bool o14.out)) rfl rfl (wantF_none rfl) Try.underlying4 rfl rfl ((hblk.below H.base).atB (rsb_at1 ho14)) ?_
          refine TF.callp (args := [(.pointer (some ⟨_, 0, none⟩)), (.int .i64 _)]) Try.fn18 rfl rfl (wantF_none rfl) rfl (sout_ok _ _ _ _ _ (Chk.belowS _ hF1 H.base) hR.inv.ok (by omega) (by omega)) ?_
          rintro e_ w ⟨rfl, hb17⟩
          refine ⟨_, rfl, fun x => Below w.heap.size w x, fun x hx => below_trans (below_trans hB hb17) hx, Below.refl _ _, ?_⟩
          replace hB := Below.refl w.heap.size w
          replace H := H.below hb17
          refine TF.u (v := (.bool _)) rfl rfl (pr_bneq Try.underlying4 rfl rfl) ?_
          clear hB
          refine TF.nil (nx_then ?_)
          refine cw_cond _ rfl rfl (fun hq20 => by
              have hp20 := hq20
              exfalso
              rw [hso] at hp20; simp at hp20) ?_
          intro hq20
          have hp20 := hq20
          refine cw_skip (nx_block (nx_then ?_))
          -- region 15 law.go:38
          refine cw_region (clf [.U, .U]) [0, 1] rfl (by kernel_rfl) (by decide) ?_
          refine TF.u (v := (.int .i64 _)) rfl rfl (pr_add rfl rfl (IntWalk.i64_in _ (by omega))) ?_
          refine TF.u (v := (.int .i64 _)) rfl rfl (pr_move rfl) ?_
          refine TF.nil (nx_loop (m' := 8 - (i + 1)) (by omega) ?_)
          exact ⟨_, i + 1, rfl, (cutS (cutS (cutS rfl rfl) rfl) rfl), H, by omega⟩
        ·
          have hp13 := dF hq13
          refine cw_exit (ex_then (ex_then (ex_here (nx_then ?_))))
          refine cw_seq ?_
          -- region 16 law.go:43
          refine cw_region (clf [.U]) [0] rfl (by kernel_rfl) (by decide) ?_
          refine TF.u (v := (.bool _)) rfl rfl (pr_assign rfl) ?_
          refine TF.nil (nx_then ?_)
          refine cw_ret (fin1 (v := (.bool _)) Try.results21 rfl rfl ?_)
          exact ⟨rfl, H.base⟩

theorem does_ok (sb rb : Nat) (s r : SS) (F : List Nat) (o : OP) (w0 : World) (hF : (cSep (cStore 60 65 sb (s)) (cRStore 9 92 rb (r))).p w0 F) (hR : SRel s r) (hO : OpOk o) :
    Calls Try.prog 22 #[.pointer (some ⟨sb, 0, none⟩), .pointer (some ⟨rb, 0, none⟩), .agg ⟨opV o⟩] w0 fun e w => e = .returned (.bool true) ∧ Upd (cSep (cStore 60 65 sb (sStep s o)) (cRStore 9 92 rb (rStep r o))) F w0 w ∧ SRel (sStep s o) (rStep r o) := by
  refine enter (args := [.pointer (some ⟨sb, 0, none⟩), .pointer (some ⟨rb, 0, none⟩), .agg ⟨opV o⟩]) Try.func22 rfl Try.ntmps22 rfl ?_
  have H := Sat.start1 hF
  obtain ⟨o1, o2, o3, o4, o5, o6, o7, o8, o9⟩ := (show OpOk o from hO)
  refine cw_seq ?_
  -- region 0 law.go:47
  refine cw_region (clf [.X, .U]) [0, 1] rfl (by kernel_rfl) (by decide) ?_
  refine TF.box (v := (.agg ⟨opV o⟩)) H rfl (Cx.xx rfl) (wantF_none rfl) rfl rfl ?_
  clear H
  intro bk1 w hltbk1 hb2 H
  refine TF.u (v := (.bool _)) rfl rfl (pr_assign rfl) ?_
  refine TF.nil (nx_then ?_)
  refine cw_seq ?_
  refine cw_seq ?_
  -- region 1 law.go:48
  refine cw_region (clf [.U, .X]) [0, 1] rfl (by kernel_rfl) (by decide) ?_
  refine TF.u (v := (.pointer (some ⟨_, 0, none⟩))) rfl rfl (pr_field (o' := 0) Try.underlying43 rfl (Try.ty3.s) (by decide) rfl rfl) ?_
  refine TF.load (v := (.int .i64 o.k)) rfl rfl (wantF_none rfl) Try.underlying3 rfl rfl ((H.blk (k := 0) rfl).at_ rfl) ?_
  refine TF.nil (nx_then ?_)
  refine cw_block ?_
  refine cw_seq ?_
  -- region 2 law.go:49
  refine cw_region (clf [.U, .U]) [0, 1] rfl (by kernel_rfl) (by decide) ?_
  refine TF.u (v := (.bool _)) rfl rfl (pr_eql rfl rfl) ?_
  refine TF.u (v := (.bool _)) rfl rfl (pr_assign rfl) ?_
  refine TF.nil (nx_then ?_)
  refine cw_cond _ rfl rfl (fun hq4 => ?_) (fun hq4 => ?_)
  ·
    have hp4 := dT hq4
    refine cw_seq ?_
    -- region 3 law.go:50
    replace H := H.front 1 rfl
    replace H : Sat _ _ _ (_ :: _) := H
    refine cw_drawH H Try.wide_ (clf [.U, .U, .R, .U, .R, .U, .R, .U, .R, .P, .U, .U, .R, .U, .R, .U, .R, .U, .R, .P, .U, .U]) [0, 1, 2, 3, 4, 5, 6, 7, 8, 10, 11, 12, 13, 14, 15, 16, 17, 18, 9, 19, 20, 21] (by kernel_rfl) (by kernel_rfl) ?_
    clear H
    intro w F_ hbr H hF_ hU_ hS_
    obtain ⟨F1_, F2_, ha_, hb_, hd_, hFe_⟩ := hF_
    subst hFe_
    have hS_bk1 : ∀ x_, Only (F1_ ++ F2_) w x_ → Blk x_ _ _ (opV o) := fun x_ hx_ => by obtain ⟨_, h_, _⟩ := hS_ 0 _ rfl x_ hx_; exact h_
    have hw_ : ∃ wr, wr = w := ⟨_, rfl⟩
    obtain ⟨wr_, hwr_⟩ := hw_
    have hS0_ : Only (F1_ ++ F2_) w w := Only.refl _ _
    refine TF.u (v := (.pointer (some ⟨_, 0, none⟩))) rfl rfl (pr_move rfl) ?_
    refine TF.u (v := (.pointer (some ⟨_, 1, none⟩))) rfl rfl (pr_field (o' := 1) Try.underlying43 rfl (Try.ty3.s) (by decide) rfl rfl) ?_
    refine TF.loadr (v := (.int .i64 o.n)) rfl rfl (wantF_none rfl) Try.underlying3 rfl rfl (fun x_ hx_ => (hS_bk1 x_ hx_).at_ rfl) ?_
    refine TF.u (v := (.pointer (some ⟨_, 2, none⟩))) rfl rfl (pr_field (o' := 2) Try.underlying43 rfl (Try.ty3.s) (by decide) rfl rfl) ?_
    refine TF.loadr (v := (.int .i64 o.i)) rfl rfl (wantF_none rfl) Try.underlying3 rfl rfl (fun x_ hx_ => (hS_bk1 x_ hx_).at_ rfl) ?_
    refine TF.u (v := (.pointer (some ⟨_, 4, none⟩))) rfl rfl (pr_field (o' := 4) Try.underlying43 rfl (Try.ty27.s) (by decide) rfl rfl) ?_
    refine TF.loadEq (cs' := pgV o.p) rfl rfl (wantF_none rfl) (Try.ty27.s) rfl rfl hS_bk1 (pgV_len hO.p.len) (opV_page hO.p.len) ?_
    refine TF.u (v := (.pointer (some ⟨_, 3, none⟩))) rfl rfl (pr_field (o' := 3) Try.underlying43 rfl (Try.ty3.s) (by decide) rfl rfl) ?_
    refine TF.loadr (v := (.int .i64 o.m)) rfl rfl (wantF_none rfl) Try.underlying3 rfl rfl (fun x_ hx_ => (hS_bk1 x_ hx_).at_ rfl) ?_
    refine TF.u (v := (.pointer (some ⟨_, 0, none⟩))) rfl rfl (pr_move rfl) ?_
    refine TF.u (v := (.pointer (some ⟨_, 1, none⟩))) rfl rfl (pr_field (o' := 1) Try.underlying43 rfl (Try.ty3.s) (by decide) rfl rfl) ?_
    refine TF.loadr (v := (.int .i64 o.n)) rfl rfl (wantF_none rfl) Try.underlying3 rfl rfl (fun x_ hx_ => (hS_bk1 x_ hx_).at_ rfl) ?_
    refine TF.u (v := (.pointer (some ⟨_, 2, none⟩))) rfl rfl (pr_field (o' := 2) Try.underlying43 rfl (Try.ty3.s) (by decide) rfl rfl) ?_
    refine TF.loadr (v := (.int .i64 o.i)) rfl rfl (wantF_none rfl) Try.underlying3 rfl rfl (fun x_ hx_ => (hS_bk1 x_ hx_).at_ rfl) ?_
    refine TF.u (v := (.pointer (some ⟨_, 4, none⟩))) rfl rfl (pr_field (o' := 4) Try.underlying43 rfl (Try.ty27.s) (by decide) rfl rfl) ?_
    refine TF.loadEq (cs' := pgV o.p) rfl rfl (wantF_none rfl) (Try.ty27.s) rfl rfl hS_bk1 (pgV_len hO.p.len) (opV_page hO.p.len) ?_
    refine TF.u (v := (.pointer (some ⟨_, 3, none⟩))) rfl rfl (pr_field (o' := 3) Try.underlying43 rfl (Try.ty3.s) (by decide) rfl rfl) ?_
    refine TF.loadr (v := (.int .i64 o.m)) rfl rfl (wantF_none rfl) Try.underlying3 rfl rfl (fun x_ hx_ => (hS_bk1 x_ hx_).at_ rfl) ?_
    refine TF.callp (args := [(.pointer (some ⟨_, 0, none⟩)), (.int .i64 o.n), (.int .i64 o.i), (.agg ⟨pgV o.p⟩), (.int .i64 o.m)]) Try.fn13 rfl rfl (wantF_none rfl) rfl (swrite_ok _ _ _ _ _ _ o.p o9 _ ha_ hR.inv.ok (by omega) (by omega) (by omega) (by omega) (by omega) (by omega)) ?_
    rintro e_ w1 ⟨rfl, hu1_, ok1_⟩
    refine ⟨_, rfl, fun x_ => Only (F1_ ++ F2_) w x_, fun x_ hx_ => hx_, hu1_.1.mono (fun k_ hk_ => List.mem_append_left _ hk_), ?_⟩
    have hb1_ := hu1_.keep hb_ hd_
    refine TF.callp (args := [(.pointer (some ⟨_, 0, none⟩)), (.int .i64 o.n), (.int .i64 o.i), (.agg ⟨pgV o.p⟩), (.int .i64 o.m)]) Try.fn37 rfl rfl (wantF_none rfl) rfl (rwrite_ok _ _ _ _ _ _ o.p o9 _ hb1_ hR.rok (by omega) (by omega) (by omega) (by omega) (by omega) (by omega)) ?_
    rintro e_ w2 ⟨rfl, hu2_, ok2_⟩
    have hup_ := Upd.seq2 hb_ hd_ hu1_ hu2_ ((cStore _ _ _ _).inb ha_)
    refine ⟨_, rfl, fun x_ => Below w2.heap.size w2 x_, fun x_ hx_ => hup_.1.trans (Only.of_below _ hx_), Below.refl _ _, ?_⟩
    replace H := hU_ hup_
    obtain ⟨hq_, hR_⟩ := hR.write o.n o.i o9 o.m
    refine TF.u (v := (.bool _)) rfl rfl (pr_eql rfl rfl) ?_
    refine TF.u (v := (.bool _)) rfl rfl (pr_assign rfl) ?_
    refine TF.nil (nx_then ?_)
    refine cw_ret (rt_block (rt_then (fin1 (v := (.bool _)) Try.results22 rfl rfl ?_)))
    have es_ : sStep s o = (sWrite s o.n o.i o.p o.m).1 := by rw [sStep, if_pos (by omega)]
    have er_ : rStep r o = (rWrite r o.n o.i o.p o.m).1 := by rw [rStep, if_pos (by omega)]
    rw [es_, er_]
    have H9 := H.only1 (i := 0) rfl
    exact ⟨by rw [hq_]; simp, H9.toUpd (k := 0) rfl, hR_⟩
  ·
    have hp4 := dF hq4
    refine cw_seq ?_
    -- region 4 law.go:51
    refine cw_region (clf [.U, .U]) [0, 1] rfl (by kernel_rfl) (by decide) ?_
    refine TF.u (v := (.bool _)) rfl rfl (pr_eql rfl rfl) ?_
    refine TF.u (v := (.bool _)) rfl rfl (pr_assign rfl) ?_
    refine TF.nil (nx_then ?_)
    refine cw_cond _ rfl rfl (fun hq7 => ?_) (fun hq7 => ?_)
    ·
      have hp7 := dT hq7
      refine cw_seq ?_
      -- region 5 law.go:52
      replace H := H.front 1 rfl
      replace H : Sat _ _ _ (_ :: _) := H
      refine cw_drawH H Try.wide_ (clf [.U, .U, .R, .U, .R, .P, .U, .U, .R, .U, .R, .P, .U, .U]) [0, 1, 2, 3, 4, 6, 7, 8, 9, 10, 5, 11, 12, 13] (by kernel_rfl) (by kernel_rfl) ?_
      clear H
      intro w F_ hbr H hF_ hU_ hS_
      obtain ⟨F1_, F2_, ha_, hb_, hd_, hFe_⟩ := hF_
      subst hFe_
      have hS_bk1 : ∀ x_, Only (F1_ ++ F2_) w x_ → Blk x_ _ _ (opV o) := fun x_ hx_ => by obtain ⟨_, h_, _⟩ := hS_ 0 _ rfl x_ hx_; exact h_
      have hw_ : ∃ wr, wr = w := ⟨_, rfl⟩
      obtain ⟨wr_, hwr_⟩ := hw_
      have hS0_ : Only (F1_ ++ F2_) w w := Only.refl _ _
      refine TF.u (v := (.pointer (some ⟨_, 0, none⟩))) rfl rfl (pr_move rfl) ?_
      refine TF.u (v := (.pointer (some ⟨_, 1, none⟩))) rfl rfl (pr_field (o' := 1) Try.underlying43 rfl (Try.ty3.s) (by decide) rfl rfl) ?_
      refine TF.loadr (v := (.int .i64 o.n)) rfl rfl (wantF_none rfl) Try.underlying3 rfl rfl (fun x_ hx_ => (hS_bk1 x_ hx_).at_ rfl) ?_
      refine TF.u (v := (.pointer (some ⟨_, 3, none⟩))) rfl rfl (pr_field (o' := 3) Try.underlying43 rfl (Try.ty3.s) (by decide) rfl rfl) ?_
      refine TF.loadr (v := (.int .i64 o.m)) rfl rfl (wantF_none rfl) Try.underlying3 rfl rfl (fun x_ hx_ => (hS_bk1 x_ hx_).at_ rfl) ?_
      refine TF.u (v := (.pointer (some ⟨_, 0, none⟩))) rfl rfl (pr_move rfl) ?_
      refine TF.u (v := (.pointer (some ⟨_, 1, none⟩))) rfl rfl (pr_field (o' := 1) Try.underlying43 rfl (Try.ty3.s) (by decide) rfl rfl) ?_
      refine TF.loadr (v := (.int .i64 o.n)) rfl rfl (wantF_none rfl) Try.underlying3 rfl rfl (fun x_ hx_ => (hS_bk1 x_ hx_).at_ rfl) ?_
      refine TF.u (v := (.pointer (some ⟨_, 3, none⟩))) rfl rfl (pr_field (o' := 3) Try.underlying43 rfl (Try.ty3.s) (by decide) rfl rfl) ?_
      refine TF.loadr (v := (.int .i64 o.m)) rfl rfl (wantF_none rfl) Try.underlying3 rfl rfl (fun x_ hx_ => (hS_bk1 x_ hx_).at_ rfl) ?_
      refine TF.callp (args := [(.pointer (some ⟨_, 0, none⟩)), (.int .i64 o.n), (.int .i64 o.m)]) Try.fn16 rfl rfl (wantF_none rfl) rfl (smend_ok _ _ _ _ _ _ ha_ hR.inv.ok (by omega) (by omega) (by omega) (by omega)) ?_
      rintro e_ w1 ⟨rfl, hu1_, ok1_⟩
      refine ⟨_, rfl, fun x_ => Only (F1_ ++ F2_) w x_, fun x_ hx_ => hx_, hu1_.1.mono (fun k_ hk_ => List.mem_append_left _ hk_), ?_⟩
      have hb1_ := hu1_.keep hb_ hd_
      refine TF.callp (args := [(.pointer (some ⟨_, 0, none⟩)), (.int .i64 o.n), (.int .i64 o.m)]) Try.fn38 rfl rfl (wantF_none rfl) rfl (rmend_ok _ _ _ _ _ _ hb1_ hR.rok (by omega) (by omega) (by omega) (by omega)) ?_
      rintro e_ w2 ⟨rfl, hu2_, ok2_⟩
      have hup_ := Upd.seq2 hb_ hd_ hu1_ hu2_ ((cStore _ _ _ _).inb ha_)
      refine ⟨_, rfl, fun x_ => Below w2.heap.size w2 x_, fun x_ hx_ => hup_.1.trans (Only.of_below _ hx_), Below.refl _ _, ?_⟩
      replace H := hU_ hup_
      obtain ⟨hq_, hR_⟩ := hR.mend o.n o.m
      refine TF.u (v := (.bool _)) rfl rfl (pr_eql rfl rfl) ?_
      refine TF.u (v := (.bool _)) rfl rfl (pr_assign rfl) ?_
      refine TF.nil (nx_then ?_)
      refine cw_ret (rt_block (rt_then (fin1 (v := (.bool _)) Try.results22 rfl rfl ?_)))
      have es_ : sStep s o = (sMend s o.n o.m).1 := by rw [sStep, if_neg (by omega), if_pos (by omega)]
      have er_ : rStep r o = (rMend r o.n o.m).1 := by rw [rStep, if_neg (by omega), if_pos (by omega)]
      rw [es_, er_]
      have H9 := H.only1 (i := 0) rfl
      exact ⟨by rw [hq_]; simp, H9.toUpd (k := 0) rfl, hR_⟩
    ·
      have hp7 := dF hq7
      refine cw_seq ?_
      -- region 6 law.go:53
      refine cw_region (clf [.U, .U]) [0, 1] rfl (by kernel_rfl) (by decide) ?_
      refine TF.u (v := (.bool _)) rfl rfl (pr_eql rfl rfl) ?_
      refine TF.u (v := (.bool _)) rfl rfl (pr_assign rfl) ?_
      refine TF.nil (nx_then ?_)
      refine cw_cond _ rfl rfl (fun hq10 => ?_) (fun hq10 => ?_)
      ·
        have hp10 := dT hq10
        refine cw_seq ?_
        -- region 7 law.go:54
        refine cw_region (clf [.U, .U, .X, .X, .U, .U, .U, .X, .X, .U]) [0, 1, 2, 3, 4, 5, 6, 7, 8, 9] rfl (by kernel_rfl) (by decide) ?_
        replace H := (H.front 1 rfl).unsep
        refine TF.u (v := (.pointer (some ⟨_, 0, none⟩))) rfl rfl (pr_move rfl) ?_
        refine TF.u (v := (.pointer (some ⟨_, 2, none⟩))) rfl rfl (pr_field (o' := 2) Try.underlying43 rfl (Try.ty3.s) (by decide) rfl rfl) ?_
        refine TF.load (v := (.int .i64 o.i)) rfl rfl (wantF_none rfl) Try.underlying3 rfl rfl ((H.blk (k := 2) rfl).at_ rfl) ?_
        obtain ⟨F12, hF12, hU12⟩ := H.focus (k := 0) rfl
        refine TF.call (args := [(.pointer (some ⟨_, 0, none⟩)), (.int .i64 o.i)]) Try.fn15 rfl rfl (wantF_none rfl) rfl (sread_ok _ _ _ _ _ hF12 hR.inv.ok (by omega) (by omega)) ?_
        rintro e_ w ⟨rfl, hb11⟩
        refine ⟨_, rfl, ?_⟩
        replace H := H.below hb11
        refine TF.u (v := (.tuple _)) rfl rfl (pr_move rfl) ?_
        refine TF.u (v := (.agg ⟨pgV ((sRead s o.i).1)⟩)) rfl rfl (pr_extract (vs := _) rfl rfl) ?_
        refine TF.u (v := (.int .i64 _)) rfl rfl (pr_extract (vs := _) rfl rfl) ?_
        refine TF.alloc H rfl (Cx.xx rfl) (wantF_none rfl) (Try.ty27) rfl ?_
        clear H
        intro bk13 w hltbk13 hb14 H
        replace H : Sat _ _ _ (cBlk _ _ (pgV noPg) :: _) := H
        replace H : Sat _ _ _ [_, _, _, _] := H
        refine TF.storeN (q := 0) (cs' := pgV ((sRead s o.i).1)) H rfl rfl rfl (wantF_none rfl) (Try.ty27.s) rfl rfl (pgV_len (sRead_ok hR.inv.ok _).len) (pgV_one _) (by have h_ : (pgV noPg).length = 17 := (pgV_len noPg_ok.len); omega) (store_all (pgV_len noPg_ok.len)) ?_
        clear H
        intro w ho15 H
        replace H : Sat _ _ _ [_, _, _, _] := H
        refine TF.u (v := (.int .i64 _)) rfl rfl (pr_assign rfl) ?_
        refine TF.nil (nx_then ?_)
        refine cw_seq ?_
        -- region 8 law.go:55
        refine cw_region (clf [.U, .U, .X, .X, .U, .U, .U, .X, .X, .U]) [0, 1, 2, 3, 4, 5, 6, 7, 8, 9] rfl (by kernel_rfl) (by decide) ?_
        refine TF.u (v := (.pointer (some ⟨_, 0, none⟩))) rfl rfl (pr_move rfl) ?_
        refine TF.u (v := (.pointer (some ⟨_, 2, none⟩))) rfl rfl (pr_field (o' := 2) Try.underlying43 rfl (Try.ty3.s) (by decide) rfl rfl) ?_
        refine TF.load (v := (.int .i64 o.i)) rfl rfl (wantF_none rfl) Try.underlying3 rfl rfl ((H.blk (k := 3) rfl).at_ rfl) ?_
        obtain ⟨F17, hF17, hU17⟩ := H.focus (k := 2) rfl
        refine TF.call (args := [(.pointer (some ⟨_, 0, none⟩)), (.int .i64 o.i)]) Try.fn39 rfl rfl (wantF_none rfl) rfl (rread_ok _ _ _ _ _ hF17 hR.rok (by omega) (by omega)) ?_
        rintro e_ w ⟨rfl, hb16⟩
        refine ⟨_, rfl, ?_⟩
        replace H := H.below hb16
        refine TF.u (v := (.tuple _)) rfl rfl (pr_move rfl) ?_
        refine TF.u (v := (.agg ⟨pgV ((sRead r o.i).1)⟩)) rfl rfl (pr_extract (vs := _) rfl rfl) ?_
        refine TF.u (v := (.int .i64 _)) rfl rfl (pr_extract (vs := _) rfl rfl) ?_
        refine TF.alloc H rfl (Cx.xx rfl) (wantF_none rfl) (Try.ty27) rfl ?_
        clear H
        intro bk18 w hltbk18 hb19 H
        replace H : Sat _ _ _ (cBlk _ _ (pgV noPg) :: _) := H
        replace H : Sat _ _ _ [_, _, _, _, _] := H
        refine TF.storeN (q := 0) (cs' := pgV ((sRead r o.i).1)) H rfl rfl rfl (wantF_none rfl) (Try.ty27.s) rfl rfl (pgV_len (rRead_ok hR.rok _).len) (pgV_one _) (by have h_ : (pgV noPg).length = 17 := (pgV_len noPg_ok.len); omega) (store_all (pgV_len noPg_ok.len)) ?_
        clear H
        intro w ho20 H
        replace H : Sat _ _ _ [_, _, _, _, _] := H
        refine TF.u (v := (.int .i64 _)) rfl rfl (pr_assign rfl) ?_
        refine TF.nil (nx_then ?_)
        refine cw_seq ?_
        -- region 9 law.go:56
        refine cw_region (clf [.X, .X, .U, .U, .U, .U, .U, .U, .U]) [0, 1, 2, 3, 4, 5, 6, 7, 8] rfl (by kernel_rfl) (by decide) ?_
        refine TF.loadE (cs' := pgV ((sRead s o.i).1)) rfl rfl (wantF_none rfl) (Try.ty27.s) rfl rfl (H.blk (k := 1) rfl) (pgV_len (sRead_ok hR.inv.ok _).len) (pgV_all (sRead_ok hR.inv.ok _).len) ?_
        refine TF.loadE (cs' := pgV ((sRead r o.i).1)) rfl rfl (wantF_none rfl) (Try.ty27.s) rfl rfl (H.blk (k := 0) rfl) (pgV_len (rRead_ok hR.rok _).len) (pgV_all (rRead_ok hR.rok _).len) ?_
        refine TF.u (v := (.bool _)) rfl rfl (run_eqlA (xs := pgV ((sRead s o.i).1)) (ys := pgV ((sRead r o.i).1)) (EqV.page Try.underlying27 (by kernel_rfl) rfl rfl Try.underlying24 rfl (by kernel_rfl) rfl (sRead_ok hR.inv.ok _).len (rRead_ok hR.rok _).len) (by decide) (by kernel_rfl) rfl rfl) ?_
        refine TF.u (v := (.bool _)) rfl rfl (pr_move rfl) ?_
        refine TF.split (dj := 72) rfl ?_ (fun hq22 => by
            have hp22 := dF hq22
            exfalso
            rw [hR.read] at hp22; exact hp22 rfl)
        intro hq22
        have hp22 := dT hq22
        refine TF.ug (v := (.int .i64 _)) rfl rfl (wantF_yes rfl rfl rfl hq22) (pr_move rfl) ?_
        refine TF.ug (v := (.int .i64 _)) rfl rfl (wantF_yes rfl rfl rfl hq22) (pr_move rfl) ?_
        refine TF.ug (v := (.bool _)) rfl rfl (wantF_yes rfl rfl rfl hq22) (pr_eql rfl rfl) ?_
        refine TF.u (v := (.bool _)) rfl rfl (pr_pickT rfl hq22 rfl) ?_
        refine TF.u (v := (.bool _)) rfl rfl (pr_assign rfl) ?_
        refine TF.nil (nx_then ?_)
        refine cw_ret (rt_block (rt_then (fin1 (v := (.bool _)) Try.results22 rfl rfl ?_)))
        have es_ : sStep s o = s := by rw [sStep, if_neg (by omega), if_neg (by omega)]
        have er_ : rStep r o = r := by rw [rStep, if_neg (by omega), if_neg (by omega)]
        rw [es_, er_]
        have H9 : Sat F w0 _ [cSep (cStore 60 65 sb (s)) (cRStore 9 92 rb (r))] := (H.two (i := 2) (j := 2) rfl rfl).sep
        exact ⟨by rw [hR.read]; simp, H9.toUpd (k := 0) rfl, hR⟩
      ·
        have hp10 := dF hq10
        refine cw_seq ?_
        -- region 10 law.go:57
        refine cw_region (clf [.U, .U]) [0, 1] rfl (by kernel_rfl) (by decide) ?_
        refine TF.u (v := (.bool _)) rfl rfl (pr_eql rfl rfl) ?_
        refine TF.u (v := (.bool _)) rfl rfl (pr_assign rfl) ?_
        refine TF.nil (nx_then ?_)
        refine cw_cond _ rfl rfl (fun hq25 => ?_) (fun hq25 => ?_)
        ·
          have hp25 := dT hq25
          refine cw_seq ?_
          -- region 11 law.go:58
          refine cw_region (clf [.U, .U, .X, .X, .U, .U, .U, .U, .U]) [0, 1, 2, 3, 4, 5, 6, 7, 8] rfl (by kernel_rfl) (by decide) ?_
          replace H := (H.front 1 rfl).unsep
          refine TF.u (v := (.pointer (some ⟨_, 0, none⟩))) rfl rfl (pr_move rfl) ?_
          refine TF.u (v := (.pointer (some ⟨_, 2, none⟩))) rfl rfl (pr_field (o' := 2) Try.underlying43 rfl (Try.ty3.s) (by decide) rfl rfl) ?_
          refine TF.load (v := (.int .i64 o.i)) rfl rfl (wantF_none rfl) Try.underlying3 rfl rfl ((H.blk (k := 2) rfl).at_ rfl) ?_
          obtain ⟨F26, hF26, hU26⟩ := H.focus (k := 0) rfl
          refine TF.call (args := [(.pointer (some ⟨_, 0, none⟩)), (.int .i64 o.i)]) Try.fn14 rfl rfl (wantF_none rfl) rfl (simage_ok _ _ _ _ _ hF26 hR.inv.ok (by omega) (by omega)) ?_
          rintro e_ w ⟨A26, n26, c26, rfl, hn26⟩
          refine ⟨_, rfl, ?_⟩
          replace H := H.newS hn26
          refine TF.u (v := (.tuple _)) rfl rfl (pr_move rfl) ?_
          refine TF.u (v := (.slice _ _ _)) rfl rfl (pr_extract (vs := _) rfl rfl) ?_
          refine TF.u (v := (.int .i64 _)) rfl rfl (pr_extract (vs := _) rfl rfl) ?_
          refine TF.u (v := (.slice _ _ _)) rfl rfl (pr_assign rfl) ?_
          refine TF.u (v := (.int .i64 _)) rfl rfl (pr_assign rfl) ?_
          refine TF.nil (nx_then ?_)
          refine cw_seq ?_
          refine cw_seq ?_
          -- region 12 law.go:59
          refine cw_drawS H Try.wide_ (clf [.U, .R, .U, .U, .U, .R, .U, .U, .U, .R, .U, .U, .U]) [0, 1, 2, 3, 4, 5, 6, 7, 8, 9, 10, 11, 12] (by kernel_rfl) (by kernel_rfl) ?_
          clear H
          intro w hbr H hB
          obtain ⟨Fr12, hFr12, _⟩ := H.focus (k := 2) rfl
          obtain ⟨A12, n12, c12, hb12, hrow12⟩ := cRStore_rd hFr12
          have hn12 : r.pl.length = n12 := rrow_len hrow12
          refine TF.u (v := (.pointer (some ⟨_, 2, none⟩))) rfl rfl (pr_field (o' := 2) Try.underlying43 rfl (Try.ty3.s) (by decide) rfl rfl) ?_
          refine TF.loadr (v := (.int .i64 o.i)) rfl rfl (wantF_none rfl) Try.underlying3 rfl rfl ((H.blk (k := 3) rfl).atB rfl) ?_
          refine TF.u (v := (.bool _)) rfl rfl (pr_lss rfl rfl) ?_
          refine TF.u (v := (.bool _)) rfl rfl (pr_move rfl) ?_
          refine TF.split (dj := 89) rfl (fun hq29 => ?_) (fun hq29 => ?_)
          ·
            have hp29 := dT hq29
            refine TF.skip rfl (wantF_no rfl rfl rfl hq29) ?_
            refine TF.skip rfl (wantF_no rfl rfl rfl hq29) ?_
            refine TF.skip rfl (wantF_no rfl rfl rfl hq29) ?_
            refine TF.skip rfl (wantF_no rfl rfl rfl hq29) ?_
            refine TF.skip rfl (wantF_no rfl rfl rfl hq29) ?_
            refine TF.skip rfl (wantF_no rfl rfl rfl hq29) ?_
            refine TF.skip rfl (wantF_no rfl rfl rfl hq29) ?_
            refine TF.skip rfl (wantF_no rfl rfl rfl hq29) ?_
            refine TF.u (v := (.bool _)) rfl rfl (pr_pickT rfl hq29 rfl) ?_
            clear hB
            refine TF.nil (nx_then ?_)
            refine cw_condT (t := _) rfl rfl rfl ?_
            refine cw_seq ?_
            -- region 13 law.go:60
            refine cw_region (clf [.U, .U, .U, .U, .U, .U, .U, .U]) [0, 1, 2, 3, 4, 5, 6, 7] rfl (by kernel_rfl) (by decide) ?_
            have hno : thereP s o.i = false := thereF (by rw [hR.pl]; omega)
            rw [sImage_no hno] at H
            have hz_ := (H.rdB (k := 0) rfl).length
            simp only [List.length_nil] at hz_
            have hsn : (sImage s o.i).2 = 1 := by rw [sImage_no hno]
            refine TF.u (v := (.slice _ _ _)) rfl rfl (pr_move rfl) ?_
            refine TF.u (v := (.int .i64 _)) rfl rfl (pr_len rfl Try.underlying34 rfl) ?_
            refine TF.u (v := (.bool _)) rfl rfl (pr_eql rfl rfl) ?_
            refine TF.u (v := (.bool _)) rfl rfl (pr_move rfl) ?_
            refine TF.split (dj := 102) rfl ?_ (fun hq31 => by
                have hp31 := dF hq31
                exfalso
                exact hp31 (by omega))
            intro hq31
            have hp31 := dT hq31
            refine TF.ug (v := (.int .i64 _)) rfl rfl (wantF_yes rfl rfl rfl hq31) (pr_move rfl) ?_
            refine TF.ug (v := (.bool _)) rfl rfl (wantF_yes rfl rfl rfl hq31) (pr_eql rfl rfl) ?_
            refine TF.u (v := (.bool _)) rfl rfl (pr_pickT rfl hq31 rfl) ?_
            refine TF.u (v := (.bool _)) rfl rfl (pr_assign rfl) ?_
            refine TF.nil (nx_then ?_)
            refine cw_ret (rt_then (rt_block (rt_then (fin1 (v := (.bool _)) Try.results22 rfl rfl ?_))))
            have es_ : sStep s o = s := by rw [sStep, if_neg (by omega), if_neg (by omega)]
            have er_ : rStep r o = r := by rw [rStep, if_neg (by omega), if_neg (by omega)]
            rw [es_, er_]
            have H9 : Sat F w0 _ [cSep (cStore 60 65 sb (s)) (cRStore 9 92 rb (r))] := (H.two (i := 1) (j := 1) rfl rfl).sep
            exact ⟨by rw [hsn]; simp, H9.toUpd (k := 0) rfl, hR⟩
          ·
            have hp29 := dF hq29
            refine TF.ug (v := (.pointer (some ⟨_, 2, none⟩))) rfl rfl (wantF_yes rfl rfl rfl hq29) (pr_field (o' := 2) Try.underlying43 rfl (Try.ty3.s) (by decide) rfl rfl) ?_
            refine TF.loadr (v := (.int .i64 o.i)) rfl rfl (wantF_yes rfl rfl rfl hq29) Try.underlying3 rfl rfl ((H.blk (k := 3) rfl).atB rfl) ?_
            refine TF.ug (v := (.pointer (some ⟨_, 0, none⟩))) rfl rfl (wantF_yes rfl rfl rfl hq29) (pr_move rfl) ?_
            refine TF.ug (v := (.pointer (some _))) rfl rfl (wantF_yes rfl rfl rfl hq29) (pr_nil rfl) ?_
            refine TF.ug (v := (.pointer (some ⟨_, 0, none⟩))) rfl rfl (wantF_yes rfl rfl rfl hq29) (pr_field (o' := 0) Try.underlying92 rfl (Try.ty87.s) (by decide) rfl rfl) ?_
            refine TF.loadr (v := (.slice A12 n12 c12)) rfl rfl (wantF_yes rfl rfl rfl hq29) Try.underlying87 rfl rfl (hb12.atB rfl) ?_
            refine TF.ug (v := (.int .i64 _)) rfl rfl (wantF_yes rfl rfl rfl hq29) (pr_len rfl Try.underlying87 rfl) ?_
            refine TF.ug (v := (.bool _)) rfl rfl (wantF_yes rfl rfl rfl hq29) (pr_geq rfl rfl) ?_
            refine TF.u (v := (.bool _)) rfl rfl (pr_pickF rfl hq29 rfl) ?_
            clear hB
            refine TF.nil (nx_then ?_)
            refine cw_cond _ rfl rfl (fun hq34 => ?_) (fun hq34 => ?_)
            ·
              have hp34 := dT hq34
              refine cw_seq ?_
              -- region 13 law.go:60
              refine cw_region (clf [.U, .U, .U, .U, .U, .U, .U, .U]) [0, 1, 2, 3, 4, 5, 6, 7] rfl (by kernel_rfl) (by decide) ?_
              have hno : thereP s o.i = false := thereF (by rw [hR.pl]; omega)
              rw [sImage_no hno] at H
              have hz_ := (H.rdB (k := 0) rfl).length
              simp only [List.length_nil] at hz_
              have hsn : (sImage s o.i).2 = 1 := by rw [sImage_no hno]
              refine TF.u (v := (.slice _ _ _)) rfl rfl (pr_move rfl) ?_
              refine TF.u (v := (.int .i64 _)) rfl rfl (pr_len rfl Try.underlying34 rfl) ?_
              refine TF.u (v := (.bool _)) rfl rfl (pr_eql rfl rfl) ?_
              refine TF.u (v := (.bool _)) rfl rfl (pr_move rfl) ?_
              refine TF.split (dj := 102) rfl ?_ (fun hq36 => by
                  have hp36 := dF hq36
                  exfalso
                  exact hp36 (by omega))
              intro hq36
              have hp36 := dT hq36
              refine TF.ug (v := (.int .i64 _)) rfl rfl (wantF_yes rfl rfl rfl hq36) (pr_move rfl) ?_
              refine TF.ug (v := (.bool _)) rfl rfl (wantF_yes rfl rfl rfl hq36) (pr_eql rfl rfl) ?_
              refine TF.u (v := (.bool _)) rfl rfl (pr_pickT rfl hq36 rfl) ?_
              refine TF.u (v := (.bool _)) rfl rfl (pr_assign rfl) ?_
              refine TF.nil (nx_then ?_)
              refine cw_ret (rt_then (rt_block (rt_then (fin1 (v := (.bool _)) Try.results22 rfl rfl ?_))))
              have es_ : sStep s o = s := by rw [sStep, if_neg (by omega), if_neg (by omega)]
              have er_ : rStep r o = r := by rw [rStep, if_neg (by omega), if_neg (by omega)]
              rw [es_, er_]
              have H9 : Sat F w0 _ [cSep (cStore 60 65 sb (s)) (cRStore 9 92 rb (r))] := (H.two (i := 1) (j := 1) rfl rfl).sep
              exact ⟨by rw [hsn]; simp, H9.toUpd (k := 0) rfl, hR⟩
            ·
              have hp34 := dF hq34
              refine cw_skip (nx_then ?_)
              refine cw_seq ?_
              -- region 14 law.go:62
              refine cw_drawS H Try.wide_ (clf [.U, .U, .U, .U, .R, .U, .U, .U, .R, .U, .R, .U, .R, .U, .U, .U]) [0, 1, 2, 3, 4, 5, 6, 7, 8, 9, 10, 11, 12, 13, 14, 15] (by kernel_rfl) (by kernel_rfl) ?_
              clear H
              intro w hbr H hB
              obtain ⟨Fr14, hFr14, _⟩ := H.focus (k := 2) rfl
              obtain ⟨A14, n14, c14, hb14, hrow14⟩ := cRStore_rd hFr14
              have hn14 : r.pl.length = n14 := rrow_len hrow14
              obtain ⟨x, hx⟩ : ∃ x, r.pl[o.i.toNat]? = some x := ⟨_, List.getElem?_eq_getElem (by omega)⟩
              have hsi := hR.image' (show 0 ≤ o.i by omega) hx
              rw [hsi] at H
              refine TF.u (v := (.int .i64 _)) rfl rfl (pr_move rfl) ?_
              refine TF.u (v := (.bool _)) rfl rfl (pr_eql rfl rfl) ?_
              refine TF.u (v := (.bool _)) rfl rfl (pr_move rfl) ?_
              refine TF.split (dj := 108) rfl ?_ (fun hq39 => by
                  have hp39 := dF hq39
                  exfalso
                  rw [hsi] at hp39; exact hp39 rfl)
              intro hq39
              have hp39 := dT hq39
              refine TF.ug (v := (.slice _ _ _)) rfl rfl (wantF_yes rfl rfl rfl hq39) (pr_move rfl) ?_
              refine TF.tostrr (RdS.all (H.rd (k := 0) rfl)) rfl rfl (wantF_yes rfl rfl rfl hq39) Try.underlying34 Try.underlying5 Try.underlying9 rfl ?_
              refine TF.ug (v := (.pointer (some ⟨_, 0, none⟩))) rfl rfl (wantF_yes rfl rfl rfl hq39) (pr_move rfl) ?_
              refine TF.ug (v := (.pointer (some _))) rfl rfl (wantF_yes rfl rfl rfl hq39) (pr_nil rfl) ?_
              refine TF.ug (v := (.pointer (some ⟨_, 0, none⟩))) rfl rfl (wantF_yes rfl rfl rfl hq39) (pr_field (o' := 0) Try.underlying92 rfl (Try.ty87.s) (by decide) rfl rfl) ?_
              refine TF.loadr (v := (.slice A14 n14 c14)) rfl rfl (wantF_yes rfl rfl rfl hq39) Try.underlying87 rfl rfl (hb14.atB rfl) ?_
              refine TF.ug (v := (.pointer (some ⟨_, 2, none⟩))) rfl rfl (wantF_yes rfl rfl rfl hq39) (pr_field (o' := 2) Try.underlying43 rfl (Try.ty3.s) (by decide) rfl rfl) ?_
              refine TF.loadr (v := (.int .i64 o.i)) rfl rfl (wantF_yes rfl rfl rfl hq39) Try.underlying3 rfl rfl ((H.blk (k := 3) rfl).atB rfl) ?_
              refine TF.idx hrow14 rfl rfl (wantF_yes rfl rfl rfl hq39) Try.underlying87 (Try.ty9.s) rfl rfl (by omega) (by omega) ?_
              intro p_ hc_
              replace hc_ : World.cell? _ p_ = some (T x) := (by have h_ := hc_ 0 (T x) (by decide) (by simpa using str_at hx); rwa [add_zero] at h_)
              refine TF.loadr (v := (T x)) rfl rfl (wantF_yes rfl rfl rfl hq39) Try.underlying9 rfl rfl (cellB hc_) ?_
              refine TF.ug (v := (.bool _)) rfl rfl (wantF_yes rfl rfl rfl hq39) (pr_seql rfl rfl) ?_
              refine TF.u (v := (.bool _)) rfl rfl (pr_pickT rfl hq39 rfl) ?_
              refine TF.u (v := (.bool _)) rfl rfl (pr_assign rfl) ?_
              clear hB
              refine TF.nil (nx_then ?_)
              refine cw_ret (rt_block (rt_then (fin1 (v := (.bool _)) Try.results22 rfl rfl ?_)))
              have es_ : sStep s o = s := by rw [sStep, if_neg (by omega), if_neg (by omega)]
              have er_ : rStep r o = r := by rw [rStep, if_neg (by omega), if_neg (by omega)]
              rw [es_, er_]
              have H9 : Sat F w0 _ [cSep (cStore 60 65 sb (s)) (cRStore 9 92 rb (r))] := (H.two (i := 1) (j := 1) rfl rfl).sep
              exact ⟨by simp, H9.toUpd (k := 0) rfl, hR⟩
        ·
          have hp25 := dF hq25
          refine cw_skip (nx_block (nx_then ?_))
          refine cw_seq ?_
          -- region 15 law.go:64
          refine cw_region (clf [.U, .U, .X, .U]) [0, 1, 2, 3] rfl (by kernel_rfl) (by decide) ?_
          replace H := (H.front 1 rfl).unsep
          refine TF.u (v := (.pointer (some ⟨_, 0, none⟩))) rfl rfl (pr_move rfl) ?_
          refine TF.u (v := (.pointer (some ⟨_, 0, none⟩))) rfl rfl (pr_move rfl) ?_
          obtain ⟨F41a, hF41a, hU41a⟩ := H.focus (k := 0) rfl
          obtain ⟨F41b, hF41b, hU41b⟩ := H.focus (k := 1) rfl
          refine TF.call (args := [(.pointer (some ⟨_, 0, none⟩)), (.pointer (some ⟨_, 0, none⟩))]) Try.fn21 rfl rfl (wantF_none rfl) rfl (alike_ok _ _ _ _ _ _ _ hF41a hF41b hR) ?_
          rintro e_ w ⟨rfl, hb41⟩
          refine ⟨_, rfl, ?_⟩
          replace H := H.below hb41
          refine TF.u (v := (.bool _)) rfl rfl (pr_assign rfl) ?_
          refine TF.nil (nx_then ?_)
          refine cw_ret (fin1 (v := (.bool _)) Try.results22 rfl rfl ?_)
          have es_ : sStep s o = s := by rw [sStep, if_neg (by omega), if_neg (by omega)]
          have er_ : rStep r o = r := by rw [rStep, if_neg (by omega), if_neg (by omega)]
          rw [es_, er_]
          have H9 : Sat F w0 _ [cSep (cStore 60 65 sb (s)) (cRStore 9 92 rb (r))] := (H.two (i := 0) (j := 0) rfl rfl).sep
          exact ⟨by simp, H9.toUpd (k := 0) rfl, hR⟩
end Go.Proofs.Ytpncaeadbfdflaa
