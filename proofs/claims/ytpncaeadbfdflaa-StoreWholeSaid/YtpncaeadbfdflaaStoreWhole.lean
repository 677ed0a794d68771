/- The given statement Rows.StoreWholeSaid: quayside/quaysidelaw10.StoreWhole returns true for all arguments, and leaves its arguments as they were. No further condition. -/
import Derived.Test.YtpncaeadbfdflaaFns6
import Derived.Test.YtpncaeadbfdflaaRows
import Derived.Test.YtpncaeadbfdflaaPage2
import Derived.Test.YtpncaeadbfdflaaArgsP
import Derived.Test.YtpncaeadbfdflaaCore12
import Derived.Test.YtpncaeadbfdflaaPage3
import Derived.Test.YtpncaeadbfdflaaCore13
import Derived.Test.YtpncaeadbfdflaaCore14
import Derived.Test.YtpncaeadbfdflaaStore
import Derived.Test.YtpncaeadbfdflaaStoreV
import Derived.Test.YtpncaeadbfdflaaStoreR
import Derived.Test.YtpncaeadbfdflaaStoreS
import Derived.Test.YtpncaeadbfdflaaStoreL
import Derived.Test.YtpncaeadbfdflaaStoreW
import Derived.Test.YtpncaeadbfdflaaStoreX
import Derived.Test.YtpncaeadbfdflaaMany
import Derived.Test.YtpncaeadbfdflaaArgs
import Derived.WalkKit
import Derived.ProofKit
import Derived.OpenShut
import Derived.ShutString
import Derived.ChangeOld
import Derived.Below
import Derived.SizedLaws
import Derived.JoinedCond
set_option linter.unusedSimpArgs false
set_option linter.unusedVariables false
set_option maxRecDepth 10000
namespace Go.Proofs.Ytpncaeadbfdflaa
open Go.Q Go.RowKit Go.Proofs
theorem Try.ty43 : Ty Try.prog 43 (.struct (match Try.prog.underlying 43 with | some (.struct fs) => fs | _ => #[])) (.agg ⟨[(.int .i64 0), (.int .i64 0), (.int .i64 0), (.int .i64 0), (.int .u64 0), (.bool false), (.string ⟨⟨[]⟩⟩), (.bool false), (.string ⟨⟨[]⟩⟩), (.bool false), (.string ⟨⟨[]⟩⟩), (.bool false), (.string ⟨⟨[]⟩⟩), (.bool false), (.string ⟨⟨[]⟩⟩), (.bool false), (.string ⟨⟨[]⟩⟩), (.bool false), (.string ⟨⟨[]⟩⟩), (.bool false), (.string ⟨⟨[]⟩⟩)]⟩) 21 232 := ty_mk (by kernel_rfl) (by kernel_rfl)
theorem Try.ty48 : Ty Try.prog 48 (.slice 27) (.slice none 0 0) 1 24 := ty_mk (by kernel_rfl) (by kernel_rfl)
theorem Try.fn10 : Fnc Try.prog 10 Try.f10 := ⟨Try.func10, by kernel_rfl, by kernel_rfl⟩
theorem StoreWhole_ok (pages : Int) (A_script : Option Addr) (n_script c_script : Nat) (script : List OP) (w0 : World) (hpages1 : -9223372036854775808 ≤ pages) (hpages2 : pages ≤ 9223372036854775807) (h_script : RdS w0 21 A_script n_script c_script (script.flatMap opV)) (hl_script : script.length = n_script) (hok_script : ∀ o ∈ script, OpOk o) :
    Calls Try.prog 5 #[.int .i64 pages, .slice A_script n_script c_script] w0 fun e w => e = .returned (.bool true) ∧ Below w0.heap.size w0 w := by
  refine enter (args := [.int .i64 pages, .slice A_script n_script c_script]) Try.func5 rfl Try.ntmps5 rfl ?_
  have H := Sat.start w0
  refine cw_seq ?_
  -- region 0 law.go:85
  refine cw_region (clf [.U]) [0] rfl (by kernel_rfl) (by decide) ?_
  refine TF.u (v := (.bool _)) rfl rfl (pr_assign rfl) ?_
  refine TF.nil (nx_then ?_)
  refine cw_seq ?_
  refine cw_seq ?_
  -- region 1 law.go:86
  refine cw_region (clf [.X, .U, .U, .U, .U, .U, .U]) [0, 1, 2, 3, 4, 5, 6] rfl (by kernel_rfl) (by decide) ?_
  refine TF.call (args := []) Try.fn10 rfl rfl (wantF_none rfl) rfl (awake_ok _) ?_
  rintro e_ w ⟨rfl, hb1⟩
  refine ⟨_, rfl, ?_⟩
  replace H := H.below hb1
  refine TF.u (v := (.bool _)) rfl rfl (pr_not rfl) ?_
  refine TF.u (v := (.bool _)) rfl rfl (pr_move rfl) ?_
  refine TF.ug (v := (.slice _ _ _)) rfl rfl (wantF_yes rfl rfl rfl rfl) (pr_move rfl) ?_
  refine TF.ug (v := (.int .i64 _)) rfl rfl (wantF_yes rfl rfl rfl rfl) (pr_len rfl Try.underlying40 rfl) ?_
  refine TF.ug (v := (.bool _)) rfl rfl (wantF_yes rfl rfl rfl rfl) (pr_gtr rfl rfl) ?_
  refine TF.u (v := (.bool _)) rfl rfl (pr_pickF rfl rfl rfl) ?_
  refine TF.nil (nx_then ?_)
  refine cw_cond _ rfl rfl (fun hq3 => ?_) (fun hq3 => ?_)
  ·
    have hp3 := dT hq3
    refine cw_seq ?_
    -- region 2 law.go:87
    refine cw_region (clf [.X, .U]) [0, 1] rfl (by kernel_rfl) (by decide) ?_
    refine TF.call (args := []) Try.fn10 rfl rfl (wantF_none rfl) rfl (awake_ok _) ?_
    rintro e_ w ⟨rfl, hb4⟩
    refine ⟨_, rfl, ?_⟩
    replace H := H.below hb4
    refine TF.u (v := (.bool _)) rfl rfl (pr_assign rfl) ?_
    refine TF.nil (nx_then ?_)
    refine cw_ret (rt_then (fin1 (v := (.bool _)) Try.results5 rfl rfl ?_))
    exact ⟨by simp, H.base⟩
  ·
    have hp3 := dF hq3
    refine cw_skip (nx_then ?_)
    refine cw_seq ?_
    -- region 3 law.go:89
    refine cw_region (clf [.U, .X, .U]) [0, 1, 2] rfl (by kernel_rfl) (by decide) ?_
    refine TF.u (v := (.int .i64 _)) rfl rfl (pr_move rfl) ?_
    refine TF.call (args := [(.int .i64 _)]) Try.fn12 rfl rfl (wantF_none rfl) rfl (snew_ok _ _ (by omega) (by omega)) ?_
    rintro e_ w ⟨tb5, rfl, hn5, ok5⟩
    refine ⟨_, rfl, ?_⟩
    replace H := H.newC hn5
    replace H : Sat _ _ _ [_] := H
    refine TF.u (v := (.pointer (some ⟨_, 0, none⟩))) rfl rfl (pr_assign rfl) ?_
    refine TF.nil (nx_then ?_)
    refine cw_seq ?_
    refine cw_seq ?_
    -- region 4 law.go:90
    refine cw_region (clf [.U, .U]) [0, 1] rfl (by kernel_rfl) (by decide) ?_
    refine TF.u (v := (.pointer (some ⟨_, 0, none⟩))) rfl rfl (pr_move rfl) ?_
    refine TF.u (v := (.bool _)) rfl rfl (pr_peql Try.underlying30 rfl rfl) ?_
    refine TF.nil (nx_then ?_)
    refine cw_condF (t := _) rfl rfl rfl ?_
    refine cw_skip (nx_then ?_)
    refine cw_seq ?_
    -- region 6 law.go:93
    refine cw_region (clf [.U, .X, .X, .U]) [0, 1, 2, 3] rfl (by kernel_rfl) (by decide) ?_
    have hN32 : (sNew pages).pl.length ≤ 32 := by rw [sNew_len]; unfold numPl; omega
    refine TF.u (v := (.pointer (some ⟨_, 0, none⟩))) rfl rfl (pr_move rfl) ?_
    obtain ⟨F7, hF7, hU7⟩ := H.focus (k := 0) rfl
    refine TF.call (args := [(.pointer (some ⟨_, 0, none⟩))]) Try.fn17 rfl rfl (wantF_none rfl) rfl (spages_ok _ _ _  _ hF7 ok5 ) ?_
    rintro e_ w ⟨rfl, hb6⟩
    refine ⟨_, rfl, ?_⟩
    replace H := H.below hb6
    refine TF.make (nl := (sNew pages).pl.length) (nc := (sNew pages).pl.length) (z1 := undef) H rfl (Cx.xx rfl) (wantF_none rfl) Try.underlying46 (Try.ty48) rfl rfl (Nat.le_refl _) (by omega) (by unfold maxLen; omega) ?_
    clear H
    intro bk8 w hltbk8 hb9 H
    replace H : Sat _ _ _ (cBlk _ _ (madeCells #[Value.slice none 0 0] ((sNew pages).pl.length * 1)).toList :: _) := H
    rw [made_hdr] at H
    replace H := H.toOwn (q := 0) (sz := 1) (nl := (sNew pages).pl.length) (nc := (sNew pages).pl.length) rfl (by simp) (Nat.le_refl _) (by unfold maxLen; omega)
    rw [List.take_of_length_le (by simp)] at H
    replace H := H.nils 27 ((sNew pages).pl.length)
    replace H : Sat _ _ _ [_, _, _] := H
    skip
    refine TF.u (v := (.slice _ _ _)) rfl rfl (pr_assign rfl) ?_
    refine TF.nil (nx_then ?_)
    refine cw_seq ?_
    refine cw_seq ?_
    -- region 7 law.go:94
    refine cw_region (clf [.U, .U, .U]) [0, 1, 2] rfl (by kernel_rfl) (by decide) ?_
    refine TF.u (v := (.slice _ _ _)) rfl rfl (pr_move rfl) ?_
    refine TF.u (v := (.int .i64 _)) rfl rfl (pr_len rfl Try.underlying46 rfl) ?_
    refine TF.u (v := (.int .i64 _)) rfl rfl (pr_move rfl) ?_
    refine TF.nil (nx_then ?_)
    refine cw_block ?_
    refine cw_loop (fun m_q f_q w => ∃ (g_ : Nat → Value) (i : Nat) (rs : List MR), m_q = (sNew pages).pl.length - i ∧ f_q = (upd (upd (upd (upd (upd g_ 1 (.slice A_script n_script c_script)) 5 (.pointer (some ⟨tb5, 0, none⟩))) 6 (.slice (some ⟨bk8, 0, none⟩) (sNew pages).pl.length (sNew pages).pl.length)) 33 (.int .i64 ((sNew pages).pl.length : Int))) 34 (.int .i64 (i : Int))) ∧ Sat [] w0 w [cAll (rs.map (cIn 27)), cOwn 48 1 (some ⟨bk8, 0, none⟩) (sNew pages).pl.length (sNew pages).pl.length (rs.map hdr), cStore 60 65 tb5 (sNew pages)] ∧ (i ≤ (sNew pages).pl.length) ∧ (rs.length = (sNew pages).pl.length) ∧ (RowsOk rs) ∧ (∀ r ∈ rs, r.n ≤ 1) ∧ (∀ (j : Nat) (r : MR), rs[j]? = some r → j < i → noPg ∈ r.ps)) ((sNew pages).pl.length - 0) ?_ ?_
    ·
      exact ⟨_, 0, _, rfl, (cutS (cutS (cutS (cutS (cutS rfl rfl) rfl) rfl) rfl) rfl), (((H.front 2 rfl).front 2 rfl).front 2 rfl), Nat.zero_le _, List.length_replicate, RowsOk.nils _, (fun r h_ => by rw [List.eq_of_mem_replicate h_]; exact Nat.zero_le _), (fun j r _ h_ => absurd h_ (Nat.not_lt_zero _))⟩
    ·
      clear H
      rintro m_ f_ w ⟨g_, i, rs, rfl, rfl, H, hi, hrl, hro, hrn, hno⟩
      refine cw_seq ?_
      -- region 8 law.go:94
      refine cw_region (clf [.U]) [0] rfl (by kernel_rfl) (by decide) ?_
      refine TF.u (v := (.bool _)) rfl rfl (pr_lss rfl rfl) ?_
      refine TF.nil (nx_then ?_)
      refine cw_seq ?_
      refine cw_cond _ rfl rfl (fun hq11 => ?_) (fun hq11 => ?_)
      ·
        have hp11 := dT hq11
        refine cw_skip (nx_then ?_)
        refine cw_seq ?_
        refine cw_block ?_
        refine cw_seq ?_
        -- region 9 law.go:94
        refine cw_region (clf [.U, .U]) [0, 1] rfl (by kernel_rfl) (by decide) ?_
        refine TF.u (v := (.int .i64 _)) rfl rfl (pr_move rfl) ?_
        refine TF.u (v := (.int .i64 _)) rfl rfl (pr_assign rfl) ?_
        refine TF.nil (nx_then ?_)
        -- region 10 law.go:95
        refine cw_region (clf [.U, .U, .U, .X, .U, .X]) [0, 1, 2, 3, 4, 5] rfl (by kernel_rfl) (by decide) ?_
        skip
        refine TF.u (v := (.slice _ _ _)) rfl rfl (pr_move rfl) ?_
        refine TF.u (v := (.int .i64 _)) rfl rfl (pr_move rfl) ?_
        refine TF.u (v := (.agg ⟨pgV noPg⟩)) rfl rfl (pr_build (cs := pgV noPg) Try.bld27 rfl rfl) ?_
        refine TF.lit (vs := [.agg ⟨pgV noPg⟩]) H rfl (Cx.xx rfl) (wantF_none rfl) Try.underlying48 (Try.ty27) rfl rfl rfl rfl rfl (by simp [Value.cells, pgV_len noPg_ok.len]) ?_
        clear H
        intro bk12 w hltbk12 hb13 H
        replace H := lit17 (p := noPg) noPg_ok H
        replace H : Sat _ _ _ [_, _, _, _] := H
        skip
        refine TF.u (v := (.pointer (some ⟨bk8, i, none⟩))) rfl rfl (pr_idxO (b := bk8) (o' := i) Try.underlying46 (Try.ty48.s) rfl rfl (by omega) (by omega) (Nat.mul_one _)) ?_
        skip
        refine TF.storeO (v := hdr (MR.mk (some ⟨bk12, 0, none⟩) 1 1 [noPg])) (q := 2) H rfl rfl rfl (wantF_none rfl) (Try.ty48.s) rfl rfl rfl (by simp only [Nat.mul_one]; omega) ?_
        clear H
        intro w ho14 H
        replace H : Sat _ _ _ [_, _, _, _] := H
        rw [hdr_set] at H
        replace H := (((((H.front 3 rfl).front 3 rfl).front 3 rfl).front 3 rfl)).swapIn (k := i) (by omega)
        replace H : Sat _ _ _ [_, _, _] := H
        skip
        refine TF.nil (nx_block (nx_then ?_))
        -- region 11 law.go:94
        refine cw_region (clf [.U, .U]) [0, 1] rfl (by kernel_rfl) (by decide) ?_
        refine TF.u (v := (.int .i64 _)) rfl rfl (pr_add rfl rfl (IntWalk.i64_in _ (by omega))) ?_
        refine TF.u (v := (.int .i64 _)) rfl rfl (pr_move rfl) ?_
        refine TF.nil (nx_loop (m' := (sNew pages).pl.length - (i + 1)) (by omega) ?_)
        exact ⟨_, i + 1, _, rfl, (cutS (cutS (cutS (cutS (cutS rfl rfl) rfl) rfl) rfl) rfl), (((H.front 2 rfl).front 2 rfl).front 2 rfl), by omega, (by rw [List.length_set]; exact hrl), (hro.set (fun p hp => by simp at hp; subst hp; exact noPg_ok)), (rows_le_set hrn (Nat.le_refl _)), (rows_no_set hno (by simp))⟩
      ·
        have hp11 := dF hq11
        refine cw_exit (ex_then (ex_then (ex_here (nx_then ?_))))
        refine cw_seq ?_
        refine cw_seq ?_
        -- region 12 law.go:97
        refine cw_region (clf [.U, .U, .U]) [0, 1, 2] rfl (by kernel_rfl) (by decide) ?_
        refine TF.u (v := (.slice _ _ _)) rfl rfl (pr_move rfl) ?_
        refine TF.u (v := (.int .i64 _)) rfl rfl (pr_len rfl Try.underlying40 rfl) ?_
        refine TF.u (v := (.int .i64 _)) rfl rfl (pr_move rfl) ?_
        refine TF.nil (nx_then ?_)
        refine cw_block ?_
        refine cw_loop (fun m_q f_q w => ∃ (g_ : Nat → Value) (i : Nat) (rs : List MR) (s : SS), m_q = n_script - i ∧ f_q = (upd (upd (upd (upd (upd g_ 1 (.slice A_script n_script c_script)) 5 (.pointer (some ⟨tb5, 0, none⟩))) 6 (.slice (some ⟨bk8, 0, none⟩) (sNew pages).pl.length (sNew pages).pl.length)) 44 (.int .i64 (n_script : Int))) 45 (.int .i64 (i : Int))) ∧ Sat [] w0 w [cAll (rs.map (cIn 27)), cOwn 48 1 (some ⟨bk8, 0, none⟩) (sNew pages).pl.length (sNew pages).pl.length (rs.map hdr), cStore 60 65 tb5 (s)] ∧ (i ≤ n_script) ∧ (SPV s (May rs)) ∧ (s.pl.length = (sNew pages).pl.length) ∧ (rs.length = (sNew pages).pl.length) ∧ (RowsOk rs) ∧ (∀ r ∈ rs, r.n ≤ i + 1)) (n_script - 0) ?_ ?_
        ·
          exact ⟨_, 0, _, _, rfl, (cutS (cutS (cutS (cutS (cutS rfl rfl) rfl) rfl) rfl) rfl), (((H.front 2 rfl).front 2 rfl).front 2 rfl), Nat.zero_le _, (SPV.may_new (hrl.trans (sNew_len _)) (fun k r h_ => hno k r h_ (by have := (List.getElem?_eq_some_iff.1 h_).1; omega))), rfl, hrl, hro, hrn⟩
        ·
          clear H
          rintro m_ f_ w ⟨g_, i, rs, s, rfl, rfl, H, hi, hP, hsl, hrl, hro, hrn⟩
          refine cw_seq ?_
          -- region 13 law.go:97
          refine cw_region (clf [.U]) [0] rfl (by kernel_rfl) (by decide) ?_
          refine TF.u (v := (.bool _)) rfl rfl (pr_lss rfl rfl) ?_
          refine TF.nil (nx_then ?_)
          refine cw_seq ?_
          refine cw_cond _ rfl rfl (fun hq16 => ?_) (fun hq16 => ?_)
          ·
            have hp16 := dT hq16
            refine cw_skip (nx_then ?_)
            refine cw_seq ?_
            refine cw_block ?_
            refine cw_seq ?_
            -- region 14 law.go:97
            refine cw_region (clf [.U, .U]) [0, 1] rfl (by kernel_rfl) (by decide) ?_
            refine TF.u (v := (.int .i64 _)) rfl rfl (pr_move rfl) ?_
            refine TF.u (v := (.int .i64 _)) rfl rfl (pr_assign rfl) ?_
            refine TF.nil (nx_then ?_)
            refine cw_seq ?_
            -- region 15 law.go:98
            refine cw_region (clf [.U, .U, .U, .X, .X, .X]) [0, 1, 2, 3, 4, 5] rfl (by kernel_rfl) (by decide) ?_
            refine TF.u (v := (.slice _ _ _)) rfl rfl (pr_move rfl) ?_
            refine TF.u (v := (.int .i64 _)) rfl rfl (pr_move rfl) ?_
            obtain ⟨o, ho⟩ : ∃ o, script[i]? = some o := ⟨_, List.getElem?_eq_getElem (by omega)⟩
            have hO := hok_script o (List.mem_of_getElem? ho)
            obtain ⟨o1, o2, o3, o4, o5, o6, o7, o8, o9⟩ := (show OpOk o from hO)
            refine TF.idx (h_script.below H.base) rfl rfl (wantF_none rfl) Try.underlying40 (Try.ty43.s) rfl rfl (by omega) (by omega) ?_
            intro p_ hc_
            replace hc_ : ∀ j u, (opV o)[j]? = some u → World.cell? _ (p_.add j) = some u := fun j u hu => hc_ j u (by have h_ := (List.getElem?_eq_some_iff.1 hu).1; rw [opV_len hO.p.len] at h_; exact h_) ((flat_atL (fun a ha => opV_len (hok_script a ha).p.len) ho (by have h_ := (List.getElem?_eq_some_iff.1 hu).1; rw [opV_len hO.p.len] at h_; exact h_)).trans hu)
            refine TF.loadN (cs := opV o) rfl rfl (wantF_none rfl) (Try.ty43.s) rfl rfl (opV_len hO.p.len) hc_ ?_
            refine TF.alloc H rfl (Cx.xx rfl) (wantF_none rfl) (Try.ty43) rfl ?_
            clear H
            intro bk17 w hltbk17 hb18 H
            replace H : Sat _ _ _ (cBlk _ _ (opV noOp) :: _) := H
            replace H : Sat _ _ _ [_, _, _, _] := H
            refine TF.storeN (q := 0) (cs' := opV o) H rfl rfl rfl (wantF_none rfl) (Try.ty43.s) rfl rfl (opV_len hO.p.len) (opV_one _) (by have h_ : (opV noOp).length = 21 := (opV_len noOp_ok.p.len); omega) (store_all (opV_len noOp_ok.p.len)) ?_
            clear H
            intro w ho19 H
            replace H : Sat _ _ _ [_, _, _, _] := H
            refine TF.nil (nx_then ?_)
            refine cw_seq ?_
            refine cw_seq ?_
            -- region 16 law.go:99
            refine cw_region (clf [.U, .X, .U]) [0, 1, 2] rfl (by kernel_rfl) (by decide) ?_
            refine TF.u (v := (.pointer (some ⟨_, 0, none⟩))) rfl rfl (pr_field (o' := 0) Try.underlying43 rfl (Try.ty3.s) (by decide) rfl rfl) ?_
            refine TF.load (v := (.int .i64 o.k)) rfl rfl (wantF_none rfl) Try.underlying3 rfl rfl ((H.blk (k := 0) rfl).at_ rfl) ?_
            refine TF.u (v := (.bool _)) rfl rfl (pr_eql rfl rfl) ?_
            refine TF.nil (nx_then ?_)
            refine cw_cond _ rfl rfl (fun hq21 => ?_) (fun hq21 => ?_)
            ·
              have hp21 := dT hq21
              refine cw_seq ?_
              -- region 17 law.go:100
              refine cw_region (clf [.U, .U, .X, .U, .X, .X]) [0, 1, 2, 3, 4, 5] rfl (by kernel_rfl) (by decide) ?_
              skip
              refine TF.u (v := (.pointer (some ⟨_, 0, none⟩))) rfl rfl (pr_move rfl) ?_
              refine TF.u (v := (.pointer (some ⟨_, 1, none⟩))) rfl rfl (pr_field (o' := 1) Try.underlying43 rfl (Try.ty3.s) (by decide) rfl rfl) ?_
              refine TF.load (v := (.int .i64 o.n)) rfl rfl (wantF_none rfl) Try.underlying3 rfl rfl ((H.blk (k := 0) rfl).at_ rfl) ?_
              refine TF.u (v := (.pointer (some ⟨_, 3, none⟩))) rfl rfl (pr_field (o' := 3) Try.underlying43 rfl (Try.ty3.s) (by decide) rfl rfl) ?_
              refine TF.load (v := (.int .i64 o.m)) rfl rfl (wantF_none rfl) Try.underlying3 rfl rfl ((H.blk (k := 0) rfl).at_ rfl) ?_
              obtain ⟨F22, hF22, hU22⟩ := H.focus (k := 3) rfl
              refine TF.call (args := [(.pointer (some ⟨_, 0, none⟩)), (.int .i64 o.n), (.int .i64 o.m)]) Try.fn16 rfl rfl (wantF_none rfl) rfl (smend_ok _ _ _ _ _ _ hF22 hP.inv.ok (by omega) (by omega) (by omega) (by omega)) ?_
              rintro e_ w ⟨rfl, hu22, ok22⟩
              refine ⟨_, rfl, ?_⟩
              replace H := hU22 hu22
              replace H : Sat _ _ _ [_, _, _, _] := H
              refine TF.nil (nx_then ?_)
              refine cw_exit (ex_then (ex_here (nx_then ?_)))
              -- region 23 law.go:97
              refine cw_region (clf [.U, .U]) [0, 1] rfl (by kernel_rfl) (by decide) ?_
              skip
              refine TF.u (v := (.int .i64 _)) rfl rfl (pr_add rfl rfl (IntWalk.i64_in _ (by omega))) ?_
              refine TF.u (v := (.int .i64 _)) rfl rfl (pr_move rfl) ?_
              refine TF.nil (nx_loop (m' := n_script - (i + 1)) (by omega) ?_)
              exact ⟨_, i + 1, _, _, rfl, (cutS (cutS (cutS (cutS (cutS rfl rfl) rfl) rfl) rfl) rfl), ((((H.front 3 rfl).front 3 rfl).front 3 rfl).del 3), by omega, hP.mend _ _, (sMend_plen _ _).trans hsl, hrl, hro, (fun r h_ => Nat.le_succ_of_le (hrn r h_))⟩
            ·
              have hp21 := dF hq21
              refine cw_skip (nx_then ?_)
              refine cw_seq ?_
              -- region 18 law.go:103
              refine cw_region (clf [.U, .U, .X, .U, .X, .U, .X, .U, .X, .X, .U]) [0, 1, 2, 3, 4, 5, 6, 7, 8, 9, 10] rfl (by kernel_rfl) (by decide) ?_
              skip
              refine TF.u (v := (.pointer (some ⟨_, 0, none⟩))) rfl rfl (pr_move rfl) ?_
              refine TF.u (v := (.pointer (some ⟨_, 1, none⟩))) rfl rfl (pr_field (o' := 1) Try.underlying43 rfl (Try.ty3.s) (by decide) rfl rfl) ?_
              refine TF.load (v := (.int .i64 o.n)) rfl rfl (wantF_none rfl) Try.underlying3 rfl rfl ((H.blk (k := 0) rfl).at_ rfl) ?_
              refine TF.u (v := (.pointer (some ⟨_, 2, none⟩))) rfl rfl (pr_field (o' := 2) Try.underlying43 rfl (Try.ty3.s) (by decide) rfl rfl) ?_
              refine TF.load (v := (.int .i64 o.i)) rfl rfl (wantF_none rfl) Try.underlying3 rfl rfl ((H.blk (k := 0) rfl).at_ rfl) ?_
              refine TF.u (v := (.pointer (some ⟨_, 4, none⟩))) rfl rfl (pr_field (o' := 4) Try.underlying43 rfl (Try.ty27.s) (by decide) rfl rfl) ?_
              refine TF.loadE (cs' := pgV o.p) rfl rfl (wantF_none rfl) (Try.ty27.s) rfl rfl (H.blk (k := 0) rfl) (pgV_len hO.p.len) (opV_page hO.p.len) ?_
              refine TF.u (v := (.pointer (some ⟨_, 3, none⟩))) rfl rfl (pr_field (o' := 3) Try.underlying43 rfl (Try.ty3.s) (by decide) rfl rfl) ?_
              refine TF.load (v := (.int .i64 o.m)) rfl rfl (wantF_none rfl) Try.underlying3 rfl rfl ((H.blk (k := 0) rfl).at_ rfl) ?_
              obtain ⟨F23, hF23, hU23⟩ := H.focus (k := 3) rfl
              refine TF.call (args := [(.pointer (some ⟨_, 0, none⟩)), (.int .i64 o.n), (.int .i64 o.i), (.agg ⟨pgV o.p⟩), (.int .i64 o.m)]) Try.fn13 rfl rfl (wantF_none rfl) rfl (swrite_ok _ _ _ _ _ _ o.p hO.p _ hF23 hP.inv.ok (by omega) (by omega) (by omega) (by omega) (by omega) (by omega)) ?_
              rintro e_ w ⟨rfl, hu23, ok23⟩
              refine ⟨_, rfl, ?_⟩
              replace H := hU23 hu23
              replace H : Sat _ _ _ [_, _, _, _] := H
              refine TF.u (v := (.int .i64 _)) rfl rfl (pr_assign rfl) ?_
              refine TF.nil (nx_then ?_)
              refine cw_seq ?_
              refine cw_seq ?_
              -- region 19 law.go:104
              refine cw_region (clf [.U, .U]) [0, 1] rfl (by kernel_rfl) (by decide) ?_
              refine TF.u (v := (.int .i64 _)) rfl rfl (pr_move rfl) ?_
              refine TF.u (v := (.bool _)) rfl rfl (pr_eql rfl rfl) ?_
              refine TF.nil (nx_then ?_)
              refine cw_cond _ rfl rfl (fun hq25 => ?_) (fun hq25 => ?_)
              ·
                have hp25 := dT hq25
                -- region 20 law.go:105
                refine cw_region (clf [.U, .U, .X, .U, .X, .X, .U, .X]) [0, 1, 2, 3, 4, 5, 6, 7] rfl (by kernel_rfl) (by decide) ?_
                have hw15_ := sWrite_15 hP.inv (n := o.n) (id := o.i) (m := o.m) o9 (.inl (by assumption))
                have hth_ := thereP_iff.1 hw15_.1
                have hki_ := ofNat_toNat hth_.1
                have hkl_ : o.i.toNat < (sNew pages).pl.length := by omega
                refine TF.u (v := (.slice _ _ _)) rfl rfl (pr_move rfl) ?_
                refine TF.u (v := (.pointer (some ⟨_, 2, none⟩))) rfl rfl (pr_field (o' := 2) Try.underlying43 rfl (Try.ty3.s) (by decide) rfl rfl) ?_
                refine TF.load (v := (.int .i64 o.i)) rfl rfl (wantF_none rfl) Try.underlying3 rfl rfl ((H.blk (k := 0) rfl).at_ rfl) ?_
                refine TF.u (v := (.pointer (some ⟨_, 4, none⟩))) rfl rfl (pr_field (o' := 4) Try.underlying43 rfl (Try.ty27.s) (by decide) rfl rfl) ?_
                refine TF.loadE (cs' := pgV o.p) rfl rfl (wantF_none rfl) (Try.ty27.s) rfl rfl (H.blk (k := 0) rfl) (pgV_len hO.p.len) (opV_page hO.p.len) ?_
                refine TF.lit (vs := [.agg ⟨pgV o.p⟩]) H rfl (Cx.xx rfl) (wantF_none rfl) Try.underlying48 (Try.ty27) rfl rfl rfl rfl rfl (by simp [Value.cells, pgV_len hO.p.len]) ?_
                clear H
                intro bk26 w hltbk26 hb27 H
                replace H := lit17 (p := o.p) hO.p H
                replace H : Sat _ _ _ [_, _, _, _, _] := H
                skip
                refine TF.u (v := (.pointer (some ⟨bk8, o.i.toNat, none⟩))) rfl rfl (pr_idxO (b := bk8) (o' := o.i.toNat) Try.underlying46 (Try.ty48.s) rfl rfl (by omega) (by omega) (Nat.mul_one _)) ?_
                skip
                refine TF.storeO (v := hdr (MR.mk (some ⟨bk26, 0, none⟩) 1 1 [o.p])) (q := 3) H rfl rfl rfl (wantF_none rfl) (Try.ty48.s) rfl rfl rfl (by simp only [Nat.mul_one]; omega) ?_
                clear H
                intro w ho28 H
                replace H : Sat _ _ _ [_, _, _, _, _] := H
                rw [hdr_set] at H
                replace H := ((((((H.front 4 rfl).front 4 rfl).front 3 rfl).front 4 rfl).front 4 rfl)).swapIn (k := o.i.toNat) (by omega)
                replace H : Sat _ _ _ [_, _, _, _] := H
                skip
                refine TF.nil (nx_then ?_)
                refine cw_seq ?_
                -- region 21 law.go:107
                refine cw_region (clf [.U, .U]) [0, 1] rfl (by kernel_rfl) (by decide) ?_
                have hP2 := hP.may_ok (n := o.n) (k := o.i.toNat) (p := o.p) (m := o.m) o9 (by omega) (by rw [hki_]; assumption) (r := (MR.mk (some ⟨bk26, 0, none⟩) 1 1 [o.p])) rfl
                rw [hki_] at hP2
                refine TF.u (v := (.int .i64 _)) rfl rfl (pr_move rfl) ?_
                refine TF.u (v := (.bool _)) rfl rfl (pr_eql rfl rfl) ?_
                refine TF.nil (nx_then ?_)
                refine cw_cond _ rfl rfl (fun hq30 => by
                    have hp30 := dT hq30
                    exfalso
                    omega) ?_
                intro hq30
                have hp30 := dF hq30
                refine cw_skip (nx_block (nx_then ?_))
                -- region 23 law.go:97
                refine cw_region (clf [.U, .U]) [0, 1] rfl (by kernel_rfl) (by decide) ?_
                skip
                refine TF.u (v := (.int .i64 _)) rfl rfl (pr_add rfl rfl (IntWalk.i64_in _ (by omega))) ?_
                refine TF.u (v := (.int .i64 _)) rfl rfl (pr_move rfl) ?_
                refine TF.nil (nx_loop (m' := n_script - (i + 1)) (by omega) ?_)
                exact ⟨_, i + 1, _, _, rfl, (cutS (cutS (cutS (cutS (cutS rfl rfl) rfl) rfl) rfl) rfl), ((((H.front 3 rfl).front 3 rfl).front 2 rfl).del 3), by omega, hP2, (sWrite_plen _ _ _ _).trans hsl, (by rw [List.length_set]; exact hrl), (hro.set (fun p hp => by simp at hp; subst hp; exact o9)), (rows_le_set (fun r h_ => Nat.le_succ_of_le (hrn r h_)) (Nat.le_add_left _ _))⟩
              ·
                have hp25 := dF hq25
                refine cw_skip (nx_then ?_)
                refine cw_seq ?_
                -- region 21 law.go:107
                refine cw_region (clf [.U, .U]) [0, 1] rfl (by kernel_rfl) (by decide) ?_
                skip
                refine TF.u (v := (.int .i64 _)) rfl rfl (pr_move rfl) ?_
                refine TF.u (v := (.bool _)) rfl rfl (pr_eql rfl rfl) ?_
                refine TF.nil (nx_then ?_)
                refine cw_cond _ rfl rfl (fun hq32 => ?_) (fun hq32 => ?_)
                ·
                  have hp32 := dT hq32
                  -- region 22 law.go:108
                  have hw15_ := sWrite_15 hP.inv (n := o.n) (id := o.i) (m := o.m) o9 (.inr (by assumption))
                  have hth_ := thereP_iff.1 hw15_.1
                  have hki_ := ofNat_toNat hth_.1
                  have hkl_ : o.i.toNat < (sNew pages).pl.length := by omega
                  obtain ⟨r0, hr0_⟩ : ∃ r, rs[o.i.toNat]? = some r := ⟨_, List.getElem?_eq_getElem (by omega)⟩
                  have hrn0_ := hrn r0 (List.mem_of_getElem? hr0_)
                  replace H := (((((H.front 3 rfl).front 3 rfl).front 2 rfl).front 3 rfl)).takeIn hr0_
                  replace H : Sat _ _ _ [_, _, _, _, _] := H
                  replace H : Sat _ _ _ (_ :: _) := H
                  refine cw_drawH H Try.wide_ (clf [.U, .U, .R, .U, .U, .R, .U, .R, .U, .R, .P, .P, .U, .X]) [0, 1, 2, 3, 4, 5, 6, 7, 8, 9, 10, 11, 12, 13] (by kernel_rfl) (by kernel_rfl) ?_
                  clear H
                  intro w F_ hbr H hF_ hU_ hS_
                  obtain rfl : F_ = ownF r0.A := hF_.2
                  have hS_bk17 : ∀ x_, Only (ownF r0.A) w x_ → Blk x_ _ _ (opV o) := fun x_ hx_ => by obtain ⟨_, h_, _⟩ := hS_ 1 _ rfl x_ hx_; exact h_
                  have hO_ : Only (ownF r0.A) w w := Only.refl _ _
                  refine TF.u (v := (.slice _ _ _)) rfl rfl (pr_move rfl) ?_
                  refine TF.u (v := (.pointer (some ⟨_, 2, none⟩))) rfl rfl (pr_field (o' := 2) Try.underlying43 rfl (Try.ty3.s) (by decide) rfl rfl) ?_
                  refine TF.loadr (v := (.int .i64 o.i)) rfl rfl (wantF_none rfl) Try.underlying3 rfl rfl (fun x_ hx_ => (hS_bk17 x_ hx_).at_ rfl) ?_
                  refine TF.u (v := (.slice _ _ _)) rfl rfl (pr_move rfl) ?_
                  refine TF.u (v := (.pointer (some ⟨_, 2, none⟩))) rfl rfl (pr_field (o' := 2) Try.underlying43 rfl (Try.ty3.s) (by decide) rfl rfl) ?_
                  refine TF.loadr (v := (.int .i64 o.i)) rfl rfl (wantF_none rfl) Try.underlying3 rfl rfl (fun x_ hx_ => (hS_bk17 x_ hx_).at_ rfl) ?_
                  refine TF.u (v := (.pointer (some ⟨bk8, o.i.toNat, none⟩))) rfl rfl (pr_idxO (b := bk8) (o' := o.i.toNat) Try.underlying46 (Try.ty48.s) rfl rfl (by omega) (by omega) (Nat.mul_one _)) ?_
                  skip
                  refine TF.loadr (v := .slice r0.A r0.n r0.c) rfl rfl (wantF_none rfl) Try.underlying48 rfl rfl (fun x_ hx_ => by obtain ⟨_, h_, _⟩ := hS_ 2 _ rfl x_ hx_; exact h_.at_ (by rw [List.getElem?_map, hr0_]; rfl)) ?_
                  refine TF.u (v := (.pointer (some ⟨_, 4, none⟩))) rfl rfl (pr_field (o' := 4) Try.underlying43 rfl (Try.ty27.s) (by decide) rfl rfl) ?_
                  refine TF.loadEq (cs' := pgV o.p) rfl rfl (wantF_none rfl) (Try.ty27.s) rfl rfl hS_bk17 (pgV_len hO.p.len) (opV_page hO.p.len) ?_
                  refine TF.lit (vs := [.agg ⟨pgV o.p⟩]) H rfl (Cx.hno hO_ rfl) (wantF_none rfl) Try.underlying48 (Try.ty27) rfl rfl rfl rfl rfl (by simp [Value.cells, pgV_len hO.p.len]) ?_
                  clear H
                  intro bk33 w_1 hltbk33 hb34 H
                  replace hO_ := hO_.trans (Only.of_below _ hb34)
                  replace H : Sat _ _ _ (cBlk _ _ (pgV o.p ++ []) :: _) := H
                  replace H : Sat _ _ _ [_, _, _, _, _, _] := H
                  skip
                  refine TF.appendP (q := 1) (v := .slice (some ⟨bk33, 0, none⟩) 1 1) H rfl rfl rfl (wantF_none rfl) Try.underlying48 (Try.ty27) rfl Try.underlying48 (.inr ⟨_, rfl⟩) rfl rfl (Src.rd ((H.blk (k := 0) rfl).own 1 (by rw [List.append_nil, pgV_len hO.p.len]) (by decide)).rd (fun _ h_ => pgV_one _ _ (by simpa using h_))) (by unfold maxLen; omega) (by omega) (fun w_ h_ => hO_.trans h_) ?_
                  clear H
                  intro A9_ c9_ w ho9_ H
                  replace H : Sat _ _ _ [_, _, _, _, _, _] := H
                  skip
                  refine TF.u (v := (.pointer (some ⟨bk8, o.i.toNat, none⟩))) rfl rfl (pr_idxO (b := bk8) (o' := o.i.toNat) Try.underlying46 (Try.ty48.s) rfl rfl (by omega) (by omega) (Nat.mul_one _)) ?_
                  skip
                  refine TF.storeO (v := hdr (MR.mk A9_ (r0.n + 1) c9_ (r0.ps ++ [o.p]))) (q := 4) H rfl rfl rfl (wantF_none rfl) (Try.ty48.s) rfl rfl rfl (by simp only [Nat.mul_one]; omega) ?_
                  clear H
                  intro w ho35 H
                  replace H : Sat _ _ _ [_, _, _, _, _, _] := H
                  rw [hdr_set] at H
                  replace H : Sat _ _ _ [_, _, _, _, _, _] := H
                  rw [row_grow (A := A9_) (c := c9_)] at H
                  replace H := (show Sat _ _ _ (cIn 27 (MR.mk A9_ (r0.n + 1) c9_ (r0.ps ++ [o.p])) :: _) from ((((((H.front 5 rfl).front 5 rfl).front 5 rfl).front 3 rfl).front 5 rfl).front 5 rfl)).putIn (k := o.i.toNat) (by omega)
                  replace H : Sat _ _ _ [_, _, _, _, _] := H
                  skip
                  refine TF.nil (nx_block (nx_then ?_))
                  -- region 23 law.go:97
                  refine cw_region (clf [.U, .U]) [0, 1] rfl (by kernel_rfl) (by decide) ?_
                  have hP2 := hP.may_cut (n := o.n) (k := o.i.toNat) (p := o.p) (m := o.m) o9 hr0_ (r := (MR.mk A9_ (r0.n + 1) c9_ (r0.ps ++ [o.p]))) rfl
                  rw [hki_] at hP2
                  refine TF.u (v := (.int .i64 _)) rfl rfl (pr_add rfl rfl (IntWalk.i64_in _ (by omega))) ?_
                  refine TF.u (v := (.int .i64 _)) rfl rfl (pr_move rfl) ?_
                  refine TF.nil (nx_loop (m' := n_script - (i + 1)) (by omega) ?_)
                  exact ⟨_, i + 1, _, _, rfl, (cutS (cutS (cutS (cutS (cutS rfl rfl) rfl) rfl) rfl) rfl), (((((H.front 4 rfl).front 4 rfl).front 2 rfl).del 3).del 3), by omega, hP2, (sWrite_plen _ _ _ _).trans hsl, (by rw [List.length_set]; exact hrl), (hro.set (fun p hp => by rcases List.mem_append.1 hp with hp | hp; exact hro _ (List.mem_of_getElem? hr0_) p hp; simp at hp; subst hp; exact o9)), (rows_le_set (fun r h_ => Nat.le_succ_of_le (hrn r h_)) (Nat.succ_le_succ (hrn _ (List.mem_of_getElem? hr0_))))⟩
                ·
                  have hp32 := dF hq32
                  refine cw_skip (nx_block (nx_then ?_))
                  -- region 23 law.go:97
                  refine cw_region (clf [.U, .U]) [0, 1] rfl (by kernel_rfl) (by decide) ?_
                  skip
                  refine TF.u (v := (.int .i64 _)) rfl rfl (pr_add rfl rfl (IntWalk.i64_in _ (by omega))) ?_
                  refine TF.u (v := (.int .i64 _)) rfl rfl (pr_move rfl) ?_
                  refine TF.nil (nx_loop (m' := n_script - (i + 1)) (by omega) ?_)
                  exact ⟨_, i + 1, _, _, rfl, (cutS (cutS (cutS (cutS (cutS rfl rfl) rfl) rfl) rfl) rfl), ((((H.front 3 rfl).front 3 rfl).front 3 rfl).del 3), by omega, hP.may_no o9 (by assumption) (by assumption), (sWrite_plen _ _ _ _).trans hsl, hrl, hro, (fun r h_ => Nat.le_succ_of_le (hrn r h_))⟩
          ·
            have hp16 := dF hq16
            refine cw_exit (ex_then (ex_then (ex_here (nx_then ?_))))
            refine cw_seq ?_
            refine cw_seq ?_
            -- region 24 law.go:111
            refine cw_region (clf [.U]) [0] rfl (by kernel_rfl) (by decide) ?_
            refine TF.u (v := (.int .i64 _)) rfl rfl (pr_assign rfl) ?_
            refine TF.nil (nx_then ?_)
            refine cw_block ?_
            refine cw_loop (fun m_q f_q w => ∃ (g_ : Nat → Value) (i : Nat) (s : SS), m_q = 8 - i ∧ f_q = (upd (upd (upd g_ 5 (.pointer (some ⟨tb5, 0, none⟩))) 6 (.slice (some ⟨bk8, 0, none⟩) (sNew pages).pl.length (sNew pages).pl.length)) 11 (.int .i64 (i : Int))) ∧ Sat [] w0 w [cAll (rs.map (cIn 27)), cOwn 48 1 (some ⟨bk8, 0, none⟩) (sNew pages).pl.length (sNew pages).pl.length (rs.map hdr), cStore 60 65 tb5 (s)] ∧ (i ≤ 8) ∧ (SPV s (May rs)) ∧ (OutIn s (fun j_ => i ≤ j_)) ∧ (s.pl.length = (sNew pages).pl.length)) (8 - 0) ?_ ?_
            ·
              exact ⟨_, 0, _, rfl, (cutS (cutS (cutS rfl rfl) rfl) rfl), (((H.front 2 rfl).front 2 rfl).front 2 rfl), Nat.zero_le _, hP, OutIn.all _, hsl⟩
            ·
              clear H
              rintro m_ f_ w ⟨g_, i, s, rfl, rfl, H, hi, hP, hO, hsl⟩
              refine cw_seq ?_
              refine cw_seq ?_
              -- region 25 law.go:111
              refine cw_region (clf [.U, .U]) [0, 1] rfl (by kernel_rfl) (by decide) ?_
              refine TF.u (v := (.int .i64 _)) rfl rfl (pr_move rfl) ?_
              refine TF.u (v := (.bool _)) rfl rfl (pr_lss rfl rfl) ?_
              refine TF.nil (nx_then ?_)
              refine cw_cond _ rfl rfl (fun hq37 => ?_) (fun hq37 => ?_)
              ·
                have hp37 := dT hq37
                refine cw_skip (nx_then ?_)
                refine cw_seq ?_
                refine cw_block ?_
                refine cw_seq ?_
                -- region 27 law.go:112
                refine cw_region (clf [.U, .U, .X, .U, .U, .U, .U, .X, .U]) [0, 1, 2, 3, 4, 5, 6, 7, 8] rfl (by kernel_rfl) (by decide) ?_
                obtain ⟨hm1_, hm2_, hm3_⟩ := hO.next hP.inv (show i < 8 by omega)
                refine TF.u (v := (.pointer (some ⟨_, 0, none⟩))) rfl rfl (pr_move rfl) ?_
                refine TF.u (v := (.int .i64 _)) rfl rfl (pr_move rfl) ?_
                obtain ⟨F38, hF38, hU38⟩ := H.focus (k := 2) rfl
                refine TF.call (args := [(.pointer (some ⟨_, 0, none⟩)), (.int .i64 _), (.int .i64 _)]) Try.fn16 rfl rfl (wantF_none rfl) rfl (smend_ok _ _ _ _ _ _ hF38 hP.inv.ok (by omega) (by omega) (by omega) (by omega)) ?_
                rintro e_ w ⟨rfl, hu38, ok38⟩
                refine ⟨_, rfl, ?_⟩
                replace H := hU38 hu38
                replace H : Sat _ _ _ [_, _, _] := H
                refine TF.u (v := (.bool _)) rfl rfl (pr_neq rfl rfl) ?_
                refine TF.u (v := (.bool _)) rfl rfl (pr_move rfl) ?_
                refine TF.split (dj := 104) rfl (fun hq40 => by
                    have hp40 := dF (nT hq40)
                    exfalso
                    exact hp40 hm1_) ?_
                intro hq40
                have hp40 := dT (nF hq40)
                refine TF.ug (v := (.pointer (some ⟨_, 0, none⟩))) rfl rfl (wantF_yes rfl rfl rfl hq40) (pr_move rfl) ?_
                refine TF.ug (v := (.int .i64 _)) rfl rfl (wantF_yes rfl rfl rfl hq40) (pr_move rfl) ?_
                obtain ⟨F43, hF43, hU43⟩ := H.focus (k := 2) rfl
                refine TF.call (args := [(.pointer (some ⟨_, 0, none⟩)), (.int .i64 _)]) Try.fn18 rfl rfl (wantF_yes rfl rfl rfl hq40) rfl (sout_ok _ _ _ _ _ hF43 ok38 (by omega) (by omega)) ?_
                rintro e_ w ⟨rfl, hb41⟩
                refine ⟨_, rfl, ?_⟩
                replace H := H.below hb41
                refine TF.u (v := (.bool _)) rfl rfl (pr_pickF rfl hq40 rfl) ?_
                refine TF.nil (nx_then ?_)
                refine cw_cond _ rfl rfl (fun hq44 => by
                    have hp44 := hq44
                    exfalso
                    rw [hm2_] at hp44; cases hp44) ?_
                intro hq44
                have hp44 := hq44
                refine cw_skip (nx_block (nx_then ?_))
                -- region 26 law.go:111
                refine cw_region (clf [.U, .U, .U]) [0, 1, 2] rfl (by kernel_rfl) (by decide) ?_
                refine TF.u (v := (.int .i64 _)) rfl rfl (pr_move rfl) ?_
                refine TF.u (v := (.int .i64 _)) rfl rfl (pr_add rfl rfl (IntWalk.i64_in _ (by omega))) ?_
                refine TF.u (v := (.int .i64 _)) rfl rfl (pr_assign rfl) ?_
                refine TF.nil (nx_loop (m' := 8 - (i + 1)) (by omega) ?_)
                exact ⟨_, i + 1, _, rfl, (cutS (cutS (cutS rfl rfl) rfl) rfl), (((H.front 2 rfl).front 2 rfl).front 2 rfl), by omega, hP.mend _ _, hm3_, (sMend_plen _ _).trans hsl⟩
              ·
                have hp37 := dF hq37
                refine cw_exit (ex_then (ex_then (ex_here (nx_then ?_))))
                refine cw_seq ?_
                refine cw_seq ?_
                -- region 29 law.go:116
                refine cw_region (clf [.U, .U, .U]) [0, 1, 2] rfl (by kernel_rfl) (by decide) ?_
                refine TF.u (v := (.slice _ _ _)) rfl rfl (pr_move rfl) ?_
                refine TF.u (v := (.int .i64 _)) rfl rfl (pr_len rfl Try.underlying46 rfl) ?_
                refine TF.u (v := (.int .i64 _)) rfl rfl (pr_move rfl) ?_
                refine TF.nil (nx_then ?_)
                refine cw_block ?_
                refine cw_loop (fun m_q f_q w => ∃ (g_ : Nat → Value) (k : Nat), m_q = (sNew pages).pl.length - k ∧ f_q = (upd (upd (upd (upd g_ 5 (.pointer (some ⟨tb5, 0, none⟩))) 6 (.slice (some ⟨bk8, 0, none⟩) (sNew pages).pl.length (sNew pages).pl.length)) 110 (.int .i64 ((sNew pages).pl.length : Int))) 111 (.int .i64 (k : Int))) ∧ Sat [] w0 w [cAll (rs.map (cIn 27)), cOwn 48 1 (some ⟨bk8, 0, none⟩) (sNew pages).pl.length (sNew pages).pl.length (rs.map hdr), cStore 60 65 tb5 (s)] ∧ (k ≤ (sNew pages).pl.length)) ((sNew pages).pl.length - 0) ?_ ?_
                ·
                  exact ⟨_, 0, rfl, (cutS (cutS (cutS (cutS rfl rfl) rfl) rfl) rfl), (((H.front 2 rfl).front 2 rfl).front 2 rfl), Nat.zero_le _⟩
                ·
                  clear H
                  rintro m_ f_ w ⟨g_, k, rfl, rfl, H, hk⟩
                  refine cw_seq ?_
                  -- region 30 law.go:116
                  refine cw_region (clf [.U]) [0] rfl (by kernel_rfl) (by decide) ?_
                  refine TF.u (v := (.bool _)) rfl rfl (pr_lss rfl rfl) ?_
                  refine TF.nil (nx_then ?_)
                  refine cw_seq ?_
                  refine cw_cond _ rfl rfl (fun hq46 => ?_) (fun hq46 => ?_)
                  ·
                    have hp46 := dT hq46
                    refine cw_skip (nx_then ?_)
                    refine cw_seq ?_
                    refine cw_block ?_
                    refine cw_seq ?_
                    -- region 31 law.go:116
                    refine cw_region (clf [.U, .U]) [0, 1] rfl (by kernel_rfl) (by decide) ?_
                    refine TF.u (v := (.int .i64 _)) rfl rfl (pr_move rfl) ?_
                    refine TF.u (v := (.int .i64 _)) rfl rfl (pr_assign rfl) ?_
                    refine TF.nil (nx_then ?_)
                    refine cw_seq ?_
                    -- region 32 law.go:117
                    refine cw_region (clf [.U, .U, .X, .U, .U, .U, .X, .X, .U]) [0, 1, 2, 3, 4, 5, 6, 7, 8] rfl (by kernel_rfl) (by decide) ?_
                    obtain ⟨r0, hr0_⟩ : ∃ r, rs[k]? = some r := ⟨_, List.getElem?_eq_getElem (by omega)⟩
                    have hrn0_ := hrn r0 (List.mem_of_getElem? hr0_)
                    obtain ⟨pg_, hpg1_, hpg2_, hpgM_, hrd_⟩ := hP.whole (hO.none hP.inv (by omega)) (k := k) (by omega)
                    have hmem_ : (sRead s (k : Int)).1 ∈ r0.ps := by obtain ⟨r', h1_, h2_⟩ := hpgM_; rw [hr0_] at h1_; cases h1_; rw [hrd_]; exact h2_
                    have hcnt_ : r0.ps.length = r0.n := (H.inRd (q := 0) rfl hr0_).count17 (hro r0 (List.mem_of_getElem? hr0_))
                    refine TF.u (v := (.pointer (some ⟨_, 0, none⟩))) rfl rfl (pr_move rfl) ?_
                    refine TF.u (v := (.int .i64 _)) rfl rfl (pr_move rfl) ?_
                    obtain ⟨F48, hF48, hU48⟩ := H.focus (k := 2) rfl
                    refine TF.call (args := [(.pointer (some ⟨_, 0, none⟩)), (.int .i64 _)]) Try.fn15 rfl rfl (wantF_none rfl) rfl (sread_ok _ _ _ _ _ hF48 hP.inv.ok (by omega) (by omega)) ?_
                    rintro e_ w ⟨rfl, hb47⟩
                    refine ⟨_, rfl, ?_⟩
                    replace H := H.below hb47
                    refine TF.u (v := (.tuple _)) rfl rfl (pr_move rfl) ?_
                    refine TF.u (v := (.agg ⟨pgV ((sRead s (k : Int)).1)⟩)) rfl rfl (pr_extract (vs := _) rfl rfl) ?_
                    refine TF.u (v := (.int .i64 _)) rfl rfl (pr_extract (vs := _) rfl rfl) ?_
                    refine TF.alloc H rfl (Cx.xx rfl) (wantF_none rfl) (Try.ty27) rfl ?_
                    clear H
                    intro bk49 w hltbk49 hb50 H
                    replace H : Sat _ _ _ (cBlk _ _ (pgV noPg) :: _) := H
                    replace H : Sat _ _ _ [_, _, _, _] := H
                    refine TF.storeN (q := 0) (cs' := pgV ((sRead s (k : Int)).1)) H rfl rfl rfl (wantF_none rfl) (Try.ty27.s) rfl rfl (pgV_len (sRead_ok hP.inv.ok _).len) (pgV_one _) (by have h_ : (pgV noPg).length = 17 := (pgV_len noPg_ok.len); omega) (store_all (pgV_len noPg_ok.len)) ?_
                    clear H
                    intro w ho51 H
                    replace H : Sat _ _ _ [_, _, _, _] := H
                    refine TF.u (v := (.int .i64 _)) rfl rfl (pr_assign rfl) ?_
                    refine TF.nil (nx_then ?_)
                    refine cw_seq ?_
                    -- region 33 law.go:118
                    refine cw_region (clf [.U]) [0] rfl (by kernel_rfl) (by decide) ?_
                    refine TF.u (v := (.bool _)) rfl rfl (pr_assign rfl) ?_
                    refine TF.nil (nx_then ?_)
                    refine cw_seq ?_
                    refine cw_seq ?_
                    -- region 34 law.go:119
                    refine cw_region (clf [.U, .U, .U, .X, .U, .U]) [0, 1, 2, 3, 4, 5] rfl (by kernel_rfl) (by decide) ?_
                    refine TF.u (v := (.slice _ _ _)) rfl rfl (pr_move rfl) ?_
                    refine TF.u (v := (.int .i64 _)) rfl rfl (pr_move rfl) ?_
                    refine TF.idx (H.rd (k := 2) rfl) rfl rfl (wantF_none rfl) Try.underlying46 (Try.ty48.s) rfl rfl (by omega) (by omega) ?_
                    intro p_ hc_
                    replace hc_ := hc_ 0 (hdr r0) (by decide) (by simp [List.getElem?_map, hr0_])
                    rw [add_zero] at hc_
                    refine TF.load (v := .slice r0.A r0.n r0.c) rfl rfl (wantF_none rfl) Try.underlying48 rfl rfl hc_ ?_
                    refine TF.u (v := (.int .i64 _)) rfl rfl (pr_len rfl Try.underlying48 rfl) ?_
                    refine TF.u (v := (.int .i64 _)) rfl rfl (pr_move rfl) ?_
                    refine TF.nil (nx_then ?_)
                    refine cw_block ?_
                    refine cw_loop (fun m_q f_q w => ∃ (g_ : Nat → Value) (j : Nat) (bb : Bool), m_q = r0.n - j ∧ f_q = (upd (upd (upd (upd (upd (upd (upd (upd (upd (upd g_ 5 (.pointer (some ⟨tb5, 0, none⟩))) 6 (.slice (some ⟨bk8, 0, none⟩) (sNew pages).pl.length (sNew pages).pl.length)) 12 (.int .i64 (k : Int))) 13 (.pointer (some ⟨bk49, 0, none⟩))) 14 (.int .i64 (sRead s (k : Int)).2)) 15 (.bool bb)) 110 (.int .i64 ((sNew pages).pl.length : Int))) 111 (.int .i64 (k : Int))) 124 (.int .i64 (r0.n : Int))) 125 (.int .i64 (j : Int))) ∧ Sat [] w0 w [cAll (rs.map (cIn 27)), cOwn 48 1 (some ⟨bk8, 0, none⟩) (sNew pages).pl.length (sNew pages).pl.length (rs.map hdr), cStore 60 65 tb5 (s), cBlk bk49 27 (pgV (sRead s (k : Int)).1)] ∧ (j ≤ r0.n) ∧ ((sRead s (k : Int)).1 ∈ r0.ps.take j → bb = true)) (r0.n - 0) ?_ ?_
                    ·
                      exact ⟨_, 0, _, rfl, (cutS (cutS (cutS (cutS (cutS (cutS (cutS (cutS (cutS (cutS rfl rfl) rfl) rfl) rfl) rfl) rfl) rfl) rfl) rfl) rfl), (((H.front 3 rfl).front 3 rfl).front 3 rfl), Nat.zero_le _, (fun h_ => by simp at h_)⟩
                    ·
                      clear H
                      rintro m_ f_ w ⟨g_, j, bb, rfl, rfl, H, hj, hbb⟩
                      refine cw_seq ?_
                      -- region 35 law.go:119
                      refine cw_region (clf [.U]) [0] rfl (by kernel_rfl) (by decide) ?_
                      refine TF.u (v := (.bool _)) rfl rfl (pr_lss rfl rfl) ?_
                      refine TF.nil (nx_then ?_)
                      refine cw_seq ?_
                      refine cw_cond _ rfl rfl (fun hq53 => ?_) (fun hq53 => ?_)
                      ·
                        have hp53 := dT hq53
                        refine cw_skip (nx_then ?_)
                        refine cw_seq ?_
                        refine cw_block ?_
                        refine cw_seq ?_
                        -- region 36 law.go:119
                        refine cw_region (clf [.U, .U]) [0, 1] rfl (by kernel_rfl) (by decide) ?_
                        refine TF.u (v := (.int .i64 _)) rfl rfl (pr_move rfl) ?_
                        refine TF.u (v := (.int .i64 _)) rfl rfl (pr_assign rfl) ?_
                        refine TF.nil (nx_then ?_)
                        -- region 37 law.go:120
                        refine cw_drawS H Try.wide_ (clf [.U, .U, .U, .U, .U, .R, .U, .U, .R, .R, .U, .U, .U]) [0, 1, 2, 3, 4, 5, 6, 7, 8, 9, 10, 11, 12] (by kernel_rfl) (by kernel_rfl) ?_
                        clear H
                        intro w hbr H hB
                        refine TF.u (v := (.bool _)) rfl rfl (pr_move rfl) ?_
                        refine TF.u (v := (.bool _)) rfl rfl (pr_move rfl) ?_
                        refine TF.split (dj := 129) rfl (fun hq54 => ?_) (fun hq54 => ?_)
                        ·
                          have hp54 := hq54
                          refine TF.skip rfl (wantF_no rfl rfl rfl hq54) ?_
                          refine TF.skip rfl (wantF_no rfl rfl rfl hq54) ?_
                          refine TF.skip rfl (wantF_no rfl rfl rfl hq54) ?_
                          refine TF.skip rfl (wantF_no rfl rfl rfl hq54) ?_
                          refine TF.skip rfl (wantF_no rfl rfl rfl hq54) ?_
                          refine TF.skip rfl (wantF_no rfl rfl rfl hq54) ?_
                          refine TF.skip rfl (wantF_no rfl rfl rfl hq54) ?_
                          refine TF.skip rfl (wantF_no rfl rfl rfl hq54) ?_
                          refine TF.skip rfl (wantF_no rfl rfl rfl hq54) ?_
                          refine TF.u (v := (.bool _)) rfl rfl (pr_pickT rfl hq54 rfl) ?_
                          refine TF.u (v := (.bool _)) rfl rfl (pr_assign rfl) ?_
                          clear hB
                          refine TF.nil (nx_block (nx_then ?_))
                          -- region 38 law.go:119
                          refine cw_region (clf [.U, .U]) [0, 1] rfl (by kernel_rfl) (by decide) ?_
                          refine TF.u (v := (.int .i64 _)) rfl rfl (pr_add rfl rfl (IntWalk.i64_in _ (by omega))) ?_
                          refine TF.u (v := (.int .i64 _)) rfl rfl (pr_move rfl) ?_
                          refine TF.nil (nx_loop (m' := r0.n - (j + 1)) (by omega) ?_)
                          exact ⟨_, j + 1, _, rfl, (cutS (cutS (cutS (cutS (cutS (cutS (cutS (cutS (cutS (cutS rfl rfl) rfl) rfl) rfl) rfl) rfl) rfl) rfl) rfl) rfl), ((((H.front 3 rfl).front 3 rfl).front 3 rfl).front 3 rfl), by omega, (by first | exact (fun h_ => take_hit hbb hpj_ (fun e_ => by simp_all) (fun e_ => by simp [e_]) h_) | exact (fun _ => rfl) | exact (fun _ => by assumption) | (intro _; simp_all; done))⟩
                        ·
                          have hp54 := hq54
                          refine TF.ug (v := (.slice _ _ _)) rfl rfl (wantF_yes rfl rfl rfl hq54) (pr_move rfl) ?_
                          refine TF.ug (v := (.int .i64 _)) rfl rfl (wantF_yes rfl rfl rfl hq54) (pr_move rfl) ?_
                          refine TF.idx (H.rd (k := 1) rfl) rfl rfl (wantF_yes rfl rfl rfl hq54) Try.underlying46 (Try.ty48.s) rfl rfl (by omega) (by omega) ?_
                          intro p_ hc_
                          replace hc_ := hc_ 0 (hdr r0) (by decide) (by simp [List.getElem?_map, hr0_])
                          rw [add_zero] at hc_
                          refine TF.loadr (v := .slice r0.A r0.n r0.c) rfl rfl (wantF_yes rfl rfl rfl hq54) Try.underlying48 rfl rfl (fun w_ hw_ => below_cell hw_ hc_) ?_
                          refine TF.ug (v := (.int .i64 _)) rfl rfl (wantF_yes rfl rfl rfl hq54) (pr_move rfl) ?_
                          obtain ⟨pj_, hpj_⟩ : ∃ p, r0.ps[j]? = some p := ⟨_, List.getElem?_eq_getElem (by omega)⟩
                          have hpo_ : POk pj_ := hro r0 (List.mem_of_getElem? hr0_) pj_ (List.mem_of_getElem? hpj_)
                          refine TF.idx (H.inRd (q := 0) rfl hr0_) rfl rfl (wantF_yes rfl rfl rfl hq54) Try.underlying48 (Try.ty27.s) rfl rfl (by omega) (by omega) ?_
                          intro p2_ hd_
                          replace hd_ : ∀ j u, (pgV pj_)[j]? = some u → World.cell? _ (p2_.add j) = some u := fun j_ u hu => hd_ j_ u (by have h_ := (List.getElem?_eq_some_iff.1 hu).1; rw [pgV_len hpo_.len] at h_; exact h_) ((flat_atL (fun a ha => pgV_len (hro r0 (List.mem_of_getElem? hr0_) a ha).len) hpj_ (by have h_ := (List.getElem?_eq_some_iff.1 hu).1; rw [pgV_len hpo_.len] at h_; exact h_)).trans hu)
                          refine TF.loadNr (cs := pgV pj_) rfl rfl (wantF_yes rfl rfl rfl hq54) (Try.ty27.s) rfl rfl (pgV_len hpo_.len) (fun w_ hw_ j u hj => below_cell hw_ (hd_ j u hj)) ?_
                          refine TF.loadEr (cs' := pgV ((sRead s (k : Int)).1)) rfl rfl (wantF_yes rfl rfl rfl hq54) (Try.ty27.s) rfl rfl (H.blk (k := 3) rfl) (pgV_len (sRead_ok hP.inv.ok _).len) (pgV_all (sRead_ok hP.inv.ok _).len) (fun _ h => h) ?_
                          refine TF.ug (v := (.bool _)) rfl rfl (wantF_yes rfl rfl rfl hq54) (run_eqlA (xs := pgV pj_) (ys := pgV ((sRead s (k : Int)).1)) (EqV.page Try.underlying27 (by kernel_rfl) rfl rfl Try.underlying24 rfl (by kernel_rfl) rfl hpo_.len (sRead_ok hP.inv.ok _).len) (by decide) (by kernel_rfl) rfl rfl) ?_
                          refine TF.u (v := (.bool _)) rfl rfl (pr_pickF rfl hq54 rfl) ?_
                          refine TF.u (v := (.bool _)) rfl rfl (pr_assign rfl) ?_
                          clear hB
                          refine TF.nil (nx_block (nx_then ?_))
                          -- region 38 law.go:119
                          refine cw_region (clf [.U, .U]) [0, 1] rfl (by kernel_rfl) (by decide) ?_
                          refine TF.u (v := (.int .i64 _)) rfl rfl (pr_add rfl rfl (IntWalk.i64_in _ (by omega))) ?_
                          refine TF.u (v := (.int .i64 _)) rfl rfl (pr_move rfl) ?_
                          refine TF.nil (nx_loop (m' := r0.n - (j + 1)) (by omega) ?_)
                          exact ⟨_, j + 1, _, rfl, (cutS (cutS (cutS (cutS (cutS (cutS (cutS (cutS (cutS (cutS rfl rfl) rfl) rfl) rfl) rfl) rfl) rfl) rfl) rfl) rfl), ((((H.front 3 rfl).front 3 rfl).front 3 rfl).front 3 rfl), by omega, (by first | exact (fun h_ => take_hit hbb hpj_ (fun e_ => by simp_all) (fun e_ => by simp [e_]) h_) | exact (fun _ => rfl) | exact (fun _ => by assumption) | (intro _; simp_all; done))⟩
                      ·
                        have hp53 := dF hq53
                        refine cw_exit (ex_then (ex_then (ex_here (nx_then ?_))))
                        refine cw_seq ?_
                        -- region 39 law.go:122
                        refine cw_region (clf [.U, .U, .U, .U, .U, .U]) [0, 1, 2, 3, 4, 5] rfl (by kernel_rfl) (by decide) ?_
                        refine TF.u (v := (.int .i64 _)) rfl rfl (pr_move rfl) ?_
                        refine TF.u (v := (.bool _)) rfl rfl (pr_neq rfl rfl) ?_
                        refine TF.u (v := (.bool _)) rfl rfl (pr_move rfl) ?_
                        refine TF.split (dj := 143) rfl (fun hq57 => by
                            have hp57 := dF (nT hq57)
                            exfalso
                            exact hp57 (congrArg Prod.snd hrd_)) ?_
                        intro hq57
                        have hp57 := dT (nF hq57)
                        refine TF.ug (v := (.bool _)) rfl rfl (wantF_yes rfl rfl rfl hq57) (pr_move rfl) ?_
                        refine TF.ug (v := (.bool _)) rfl rfl (wantF_yes rfl rfl rfl hq57) (pr_not rfl) ?_
                        refine TF.u (v := (.bool _)) rfl rfl (pr_pickF rfl hq57 rfl) ?_
                        refine TF.nil (nx_then ?_)
                        refine cw_cond _ rfl rfl (fun hq58 => by
                            have hp58 := (nT hq58)
                            exfalso
                            rw [hbb (by rw [List.take_of_length_le (by omega)]; exact hmem_)] at hp58; cases hp58) ?_
                        intro hq58
                        have hp58 := (nF hq58)
                        refine cw_skip (nx_block (nx_then ?_))
                        -- region 41 law.go:116
                        refine cw_region (clf [.U, .U]) [0, 1] rfl (by kernel_rfl) (by decide) ?_
                        refine TF.u (v := (.int .i64 _)) rfl rfl (pr_add rfl rfl (IntWalk.i64_in _ (by omega))) ?_
                        refine TF.u (v := (.int .i64 _)) rfl rfl (pr_move rfl) ?_
                        refine TF.nil (nx_loop (m' := (sNew pages).pl.length - (k + 1)) (by omega) ?_)
                        exact ⟨_, k + 1, rfl, (cutS (cutS (cutS (cutS rfl rfl) rfl) rfl) rfl), ((((H.front 2 rfl).front 2 rfl).front 2 rfl).del 3), by omega⟩
                  ·
                    have hp46 := dF hq46
                    refine cw_exit (ex_then (ex_then (ex_here (nx_then ?_))))
                    refine cw_seq ?_
                    -- region 42 law.go:126
                    refine cw_region (clf [.U]) [0] rfl (by kernel_rfl) (by decide) ?_
                    refine TF.u (v := (.bool _)) rfl rfl (pr_assign rfl) ?_
                    refine TF.nil (nx_then ?_)
                    refine cw_ret (fin1 (v := (.bool _)) Try.results5 rfl rfl ?_)
                    exact ⟨by simp, H.base⟩
end Go.Proofs.Ytpncaeadbfdflaa
namespace Go.Proofs.Ytpncaeadbfdflaa
open Go.ChangeShapes Go.WideShapes Go.ChangeAt Go.RowKit
open Go.ChangeMaps (open_string shut_string)
theorem storeWhole_own : ownKnob Try.prog.godebug = none := by kernel_rfl
theorem storeWhole_laid : laidOutB Try.prog = true := by kernel_rfl
set_option maxRecDepth 100000 in
theorem storeWhole_lifted (os : Os) (started : os.Started) (H : Type) (enc : TypeId × Value → H) :
    ReturnsInHanded {} Try.checked os 5 .any (Rows.storeWholeSpec.pre6 enc Try.prog Try.f5 Rows.storeWholeRow.domain false) (Rows.storeWholeSpec.post enc Try.prog Try.f5 false true false false) := by
  refine returnsInHanded_of_change_sized (C := Try.checked) storeWhole_own started (by kernel_rfl) Try.func5
    (ChangeSpec.witness6 (enc := enc) (C := Try.checked) false ⟨#[], #[.int .i64 0, .slice none 0 0], []⟩ 8 (by kernel_rfl) (by kernel_rfl) (by kernel_rfl) (by kernel_rfl)) ?_
  intro W base args ds gs before hval0 hW hcnd hsz0 _
  have hval : ∀ (j : Nat) t v, Try.f5.params[j]? = some t → args[j]? = some v → Value.okWide Try.prog W .any base t v := hval0
  have hW' := hW
  obtain ⟨p, q, hA0, hV, rfl, hfz, hnd⟩ := hW
  have hA : DataW.TrodAll enc Try.prog W 0 (fun _ => true) true Try.f5.params.toList args.toList ds p := hA0
  have hsz : (DataW.weightsEach Try.prog (Try.f5.params.toList ++ Rows.storeWholeSpec.plain.varTypes Try.prog) (ds ++ gs)).all (· ≤ reachBytes) = true := hsz0
  rw [Try.params5] at hA hval hsz
  obtain ⟨v0, vs0, d0, ds0, p0, q0, hargs, rfl, rfl, h0, r0⟩ := trodAll_cons hA
  obtain ⟨v1, vs1, d1, ds1, p1, q1, rfl, rfl, rfl, h1, r1⟩ := trodAll_cons r0
  obtain ⟨rfl, rfl, rfl⟩ := trodAll_nil r1
  obtain rfl : args = #[v0, v1] := by cases args; simp_all
  obtain ⟨rfl, rfl⟩ := trodVars_none hV
  obtain ⟨a0, rfl, rfl, rfl, m0⟩ := open_int Try.underlying3 (hval 0 3 v0 rfl rfl) h0
  have z0 := bounds_i64 m0
  have k1 := h1
  have lt1 : ∀ x ∈ p1, x.block < W.heap.size := by obtain ⟨m, hm⟩ := k1; exact DataW.trod_lt m _ _ _ hm
  obtain ⟨fu1, hf1⟩ := h1
  obtain ⟨A1, n1, c1, rfl⟩ := okWide_slice Try.underlying40 (hval 1 40 v1 rfl rfl)
  obtain ⟨A1', n1', c1', l1, he1, hr1, hl1, ho1⟩ := Go.Q.OT.slice (P := Try.prog) (t := 40) (sz := 21) Go.Q.opV Go.Q.OpOk ⟨fu1, _, hf1⟩ Try.underlying40 (by kernel_rfl) (fun cs_ h1_ => h1_.op (Try.underlying43) rfl Try.underlying3 (by kernel_rfl) (fun cs_ h_ => h_.page (Try.underlying27) rfl Try.underlying22 Try.underlying25 Try.underlying24 rfl Try.underlying4 Try.underlying9 (by kernel_rfl))) (fun a ha => Go.Q.opV_len ha.p.len)
  obtain ⟨rfl, rfl, rfl⟩ : A1 = A1' ∧ n1 = n1' ∧ c1 = c1' := by simpa [Value.cells] using he1
  clear hA0 hval0
  refine (StoreWhole_ok a0 A1 n1 c1 l1 W z0.1 z0.2 hr1 hl1 ho1).mono fun e W' ⟨he, bel⟩ => ?_
  subst he
  exact ⟨_, rfl, _, _, _, [], _, [], hW', trodAll_mk1 (shut_bool Try.underlying4 _), (trodAll_cons_mk (shut_int Try.underlying3 m0) (trodAll_cons_mk (Below.trod storeWhole_laid (by kernel_rfl) (of_decide_eq_true (by kernel_rfl)) k1 bel lt1) trodAll_mk0)), rfl, bel.frame _, fun h => by cases h⟩
theorem storeWhole_holds : Rows.StoreWholeSaid :=
  OpenClaim.holds_of_wide 5 Try.f5 rfl rfl rfl rfl rfl rfl rfl ⟨rfl, rfl, rfl, rfl, rfl⟩ rfl rfl rfl rfl rfl (by kernel_rfl) Try.func5 (by kernel_rfl)
    (of_decide_eq_true (by kernel_rfl)) (by unfold Func.isWrapper; first | (rw [if_pos (by decide +kernel)]; kernel_rfl) | (rw [if_neg (by decide +kernel)]; exact ⟨rfl, rfl⟩))
    (fun os started H enc _ => storeWhole_lifted os started H enc)
end Go.Proofs.Ytpncaeadbfdflaa
