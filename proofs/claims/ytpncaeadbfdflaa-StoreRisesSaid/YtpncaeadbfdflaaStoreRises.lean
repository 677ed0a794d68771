/- The given statement Rows.StoreRisesSaid: quayside/quaysidelaw10.StoreRises returns true for all arguments, and leaves its arguments as they were. No further condition. -/
import Derived.Test.YtpncaeadbfdflaaFns5
import Derived.Test.YtpncaeadbfdflaaRows
import Derived.Test.YtpncaeadbfdflaaPage2
import Derived.Test.YtpncaeadbfdflaaArgsP
import Derived.Test.YtpncaeadbfdflaaCore12
import Derived.Test.YtpncaeadbfdflaaPage3
import Derived.Test.YtpncaeadbfdflaaCore13
import Derived.Test.YtpncaeadbfdflaaCore14
import Derived.Test.YtpncaeadbfdflaaStore
import Derived.Test.YtpncaeadbfdflaaStoreV
import Derived.Test.YtpncaeadbfdflaaStoreR
import Derived.Test.YtpncaeadbfdflaaStoreS
import Derived.Test.YtpncaeadbfdflaaStoreL
import Derived.Test.YtpncaeadbfdflaaStoreW
import Derived.Test.YtpncaeadbfdflaaArgs
import Derived.WalkKit
import Derived.ProofKit
import Derived.OpenShut
import Derived.ShutString
import Derived.ChangeOld
import Derived.Below
import Derived.SizedLaws
import Derived.JoinedCond
set_option linter.unusedSimpArgs false
set_option linter.unusedVariables false
set_option maxRecDepth 10000
namespace Go.Proofs.Ytpncaeadbfdflaa
open Go.Q Go.RowKit Go.Proofs
theorem Try.ty41 : Ty Try.prog 41 (.array 4 22) (.agg ⟨[(.int .u64 0), (.int .u64 0), (.int .u64 0), (.int .u64 0)]⟩) 4 32 := ty_mk (by kernel_rfl) (by kernel_rfl)
theorem Try.ty43 : Ty Try.prog 43 (.struct (match Try.prog.underlying 43 with | some (.struct fs) => fs | _ => #[])) (.agg ⟨[(.int .i64 0), (.int .i64 0), (.int .i64 0), (.int .i64 0), (.int .u64 0), (.bool false), (.string ⟨⟨[]⟩⟩), (.bool false), (.string ⟨⟨[]⟩⟩), (.bool false), (.string ⟨⟨[]⟩⟩), (.bool false), (.string ⟨⟨[]⟩⟩), (.bool false), (.string ⟨⟨[]⟩⟩), (.bool false), (.string ⟨⟨[]⟩⟩), (.bool false), (.string ⟨⟨[]⟩⟩), (.bool false), (.string ⟨⟨[]⟩⟩)]⟩) 21 232 := ty_mk (by kernel_rfl) (by kernel_rfl)
theorem Try.fn10 : Fnc Try.prog 10 Try.f10 := ⟨Try.func10, by kernel_rfl, by kernel_rfl⟩
theorem StoreRises_ok (A_script : Option Addr) (n_script c_script : Nat) (script : List OP) (w0 : World) (h_script : RdS w0 21 A_script n_script c_script (script.flatMap opV)) (hl_script : script.length = n_script) (hok_script : ∀ o ∈ script, OpOk o) :
    Calls Try.prog 4 #[.slice A_script n_script c_script] w0 fun e w => e = .returned (.bool true) ∧ Below w0.heap.size w0 w := by
  refine enter (args := [.slice A_script n_script c_script]) Try.func4 rfl Try.ntmps4 rfl ?_
  have H := Sat.start w0
  refine cw_seq ?_
  -- region 0 law.go:172
  refine cw_region (clf [.U]) [0] rfl (by kernel_rfl) (by decide) ?_
  refine TF.u (v := (.bool _)) rfl rfl (pr_assign rfl) ?_
  refine TF.nil (nx_then ?_)
  refine cw_seq ?_
  refine cw_seq ?_
  -- region 1 law.go:173
  refine cw_region (clf [.X, .U, .U, .U, .U, .U, .U]) [0, 1, 2, 3, 4, 5, 6] rfl (by kernel_rfl) (by decide) ?_
  refine TF.call (args := []) Try.fn10 rfl rfl (wantF_none rfl) rfl (awake_ok _) ?_
  rintro e_ w ⟨rfl, hb1⟩
  refine ⟨_, rfl, ?_⟩
  replace H := H.below hb1
  refine TF.u (v := (.bool _)) rfl rfl (pr_not rfl) ?_
  refine TF.u (v := (.bool _)) rfl rfl (pr_move rfl) ?_
  refine TF.ug (v := (.slice _ _ _)) rfl rfl (wantF_yes rfl rfl rfl rfl) (pr_move rfl) ?_
  refine TF.ug (v := (.int .i64 _)) rfl rfl (wantF_yes rfl rfl rfl rfl) (pr_len rfl Try.underlying40 rfl) ?_
  refine TF.ug (v := (.bool _)) rfl rfl (wantF_yes rfl rfl rfl rfl) (pr_gtr rfl rfl) ?_
  refine TF.u (v := (.bool _)) rfl rfl (pr_pickF rfl rfl rfl) ?_
  refine TF.nil (nx_then ?_)
  refine cw_cond _ rfl rfl (fun hq3 => ?_) (fun hq3 => ?_)
  ·
    have hp3 := dT hq3
    refine cw_seq ?_
    -- region 2 law.go:174
    refine cw_region (clf [.X, .U]) [0, 1] rfl (by kernel_rfl) (by decide) ?_
    refine TF.call (args := []) Try.fn10 rfl rfl (wantF_none rfl) rfl (awake_ok _) ?_
    rintro e_ w ⟨rfl, hb4⟩
    refine ⟨_, rfl, ?_⟩
    replace H := H.below hb4
    refine TF.u (v := (.bool _)) rfl rfl (pr_assign rfl) ?_
    refine TF.nil (nx_then ?_)
    refine cw_ret (rt_then (fin1 (v := (.bool _)) Try.results4 rfl rfl ?_))
    exact ⟨by simp, H.base⟩
  ·
    have hp3 := dF hq3
    refine cw_skip (nx_then ?_)
    refine cw_seq ?_
    -- region 3 law.go:176
    refine cw_region (clf [.X, .U]) [0, 1] rfl (by kernel_rfl) (by decide) ?_
    refine TF.call (args := [(.int .i64 _)]) Try.fn12 rfl rfl (wantF_none rfl) rfl (snew_ok 4 _ (by omega) (by omega)) ?_
    rintro e_ w ⟨tb5, rfl, hn5, ok5⟩
    refine ⟨_, rfl, ?_⟩
    replace H := H.newC hn5
    replace H : Sat _ _ _ [_] := H
    refine TF.u (v := (.pointer (some ⟨_, 0, none⟩))) rfl rfl (pr_assign rfl) ?_
    refine TF.nil (nx_then ?_)
    refine cw_seq ?_
    refine cw_seq ?_
    -- region 4 law.go:177
    refine cw_region (clf [.U, .U]) [0, 1] rfl (by kernel_rfl) (by decide) ?_
    refine TF.u (v := (.pointer (some ⟨_, 0, none⟩))) rfl rfl (pr_move rfl) ?_
    refine TF.u (v := (.bool _)) rfl rfl (pr_peql Try.underlying30 rfl rfl) ?_
    refine TF.nil (nx_then ?_)
    refine cw_condF (t := _) rfl rfl rfl ?_
    refine cw_skip (nx_then ?_)
    refine cw_seq ?_
    -- region 6 law.go:180
    refine cw_region (clf [.X]) [0] rfl (by kernel_rfl) (by decide) ?_
    refine TF.alloc H rfl (Cx.xx rfl) (wantF_none rfl) (Try.ty41) rfl ?_
    clear H
    intro bk6 w hltbk6 hb7 H
    refine TF.nil (nx_then ?_)
    refine cw_seq ?_
    refine cw_seq ?_
    -- region 7 law.go:181
    refine cw_region (clf [.U, .U, .U]) [0, 1, 2] rfl (by kernel_rfl) (by decide) ?_
    refine TF.u (v := (.slice _ _ _)) rfl rfl (pr_move rfl) ?_
    refine TF.u (v := (.int .i64 _)) rfl rfl (pr_len rfl Try.underlying40 rfl) ?_
    refine TF.u (v := (.int .i64 _)) rfl rfl (pr_move rfl) ?_
    refine TF.nil (nx_then ?_)
    refine cw_block ?_
    refine cw_loop (fun m_q f_q w => ∃ (g_ : Nat → Value) (i : Nat) (s : SS) (ls : List Nat), m_q = n_script - i ∧ f_q = (upd (upd (upd (upd (upd g_ 0 (.slice A_script n_script c_script)) 3 (.pointer (some ⟨tb5, 0, none⟩))) 4 (.pointer (some ⟨bk6, 0, none⟩))) 22 (.int .i64 (n_script : Int))) 23 (.int .i64 (i : Int))) ∧ Sat [] w0 w [cStore 60 65 tb5 (s), cBlk bk6 41 (lastV ls)] ∧ (i ≤ n_script) ∧ (SPV s (Up ls)) ∧ (ls.length = 4) ∧ (s.pl.length = 4)) (n_script - 0) ?_ ?_
    ·
      exact ⟨_, 0, _, [0, 0, 0, 0], rfl, (cutS (cutS (cutS (cutS (cutS rfl rfl) rfl) rfl) rfl) rfl), (H.front 1 rfl), Nat.zero_le _, SPV.up_new, rfl, sNew_len 4⟩
    ·
      clear H
      rintro m_ f_ w ⟨g_, i, s, ls, rfl, rfl, H, hi, hP, hl4, hs4⟩
      refine cw_seq ?_
      -- region 8 law.go:181
      refine cw_region (clf [.U]) [0] rfl (by kernel_rfl) (by decide) ?_
      refine TF.u (v := (.bool _)) rfl rfl (pr_lss rfl rfl) ?_
      refine TF.nil (nx_then ?_)
      refine cw_seq ?_
      refine cw_cond _ rfl rfl (fun hq9 => ?_) (fun hq9 => ?_)
      ·
        have hp9 := dT hq9
        refine cw_skip (nx_then ?_)
        refine cw_seq ?_
        refine cw_block ?_
        refine cw_seq ?_
        -- region 9 law.go:181
        refine cw_region (clf [.U, .U]) [0, 1] rfl (by kernel_rfl) (by decide) ?_
        refine TF.u (v := (.int .i64 _)) rfl rfl (pr_move rfl) ?_
        refine TF.u (v := (.int .i64 _)) rfl rfl (pr_assign rfl) ?_
        refine TF.nil (nx_then ?_)
        refine cw_seq ?_
        -- region 10 law.go:182
        refine cw_region (clf [.U, .U, .U, .X, .X, .X]) [0, 1, 2, 3, 4, 5] rfl (by kernel_rfl) (by decide) ?_
        refine TF.u (v := (.slice _ _ _)) rfl rfl (pr_move rfl) ?_
        refine TF.u (v := (.int .i64 _)) rfl rfl (pr_move rfl) ?_
        obtain ⟨o, ho⟩ : ∃ o, script[i]? = some o := ⟨_, List.getElem?_eq_getElem (by omega)⟩
        have hO := hok_script o (List.mem_of_getElem? ho)
        obtain ⟨o1, o2, o3, o4, o5, o6, o7, o8, o9⟩ := (show OpOk o from hO)
        refine TF.idx (h_script.below H.base) rfl rfl (wantF_none rfl) Try.underlying40 (Try.ty43.s) rfl rfl (by omega) (by omega) ?_
        intro p_ hc_
        replace hc_ : ∀ j u, (opV o)[j]? = some u → World.cell? _ (p_.add j) = some u := fun j u hu => hc_ j u (by have h_ := (List.getElem?_eq_some_iff.1 hu).1; rw [opV_len hO.p.len] at h_; exact h_) ((flat_atL (fun a ha => opV_len (hok_script a ha).p.len) ho (by have h_ := (List.getElem?_eq_some_iff.1 hu).1; rw [opV_len hO.p.len] at h_; exact h_)).trans hu)
        refine TF.loadN (cs := opV o) rfl rfl (wantF_none rfl) (Try.ty43.s) rfl rfl (opV_len hO.p.len) hc_ ?_
        refine TF.alloc H rfl (Cx.xx rfl) (wantF_none rfl) (Try.ty43) rfl ?_
        clear H
        intro bk10 w hltbk10 hb11 H
        replace H : Sat _ _ _ (cBlk _ _ (opV noOp) :: _) := H
        replace H : Sat _ _ _ [_, _, _] := H
        refine TF.storeN (q := 0) (cs' := opV o) H rfl rfl rfl (wantF_none rfl) (Try.ty43.s) rfl rfl (opV_len hO.p.len) (opV_one _) (by have h_ : (opV noOp).length = 21 := (opV_len noOp_ok.p.len); omega) (store_all (opV_len noOp_ok.p.len)) ?_
        clear H
        intro w ho12 H
        replace H : Sat _ _ _ [_, _, _] := H
        refine TF.nil (nx_then ?_)
        refine cw_seq ?_
        refine cw_seq ?_
        -- region 11 law.go:183
        refine cw_region (clf [.U, .X, .U]) [0, 1, 2] rfl (by kernel_rfl) (by decide) ?_
        refine TF.u (v := (.pointer (some ⟨_, 0, none⟩))) rfl rfl (pr_field (o' := 0) Try.underlying43 rfl (Try.ty3.s) (by decide) rfl rfl) ?_
        refine TF.load (v := (.int .i64 o.k)) rfl rfl (wantF_none rfl) Try.underlying3 rfl rfl ((H.blk (k := 0) rfl).at_ rfl) ?_
        refine TF.u (v := (.bool _)) rfl rfl (pr_eql rfl rfl) ?_
        refine TF.nil (nx_then ?_)
        refine cw_cond _ rfl rfl (fun hq14 => ?_) (fun hq14 => ?_)
        ·
          have hp14 := dT hq14
          -- region 12 law.go:184
          refine cw_region (clf [.U, .U, .X, .U, .X, .X]) [0, 1, 2, 3, 4, 5] rfl (by kernel_rfl) (by decide) ?_
          skip
          refine TF.u (v := (.pointer (some ⟨_, 0, none⟩))) rfl rfl (pr_move rfl) ?_
          refine TF.u (v := (.pointer (some ⟨_, 1, none⟩))) rfl rfl (pr_field (o' := 1) Try.underlying43 rfl (Try.ty3.s) (by decide) rfl rfl) ?_
          refine TF.load (v := (.int .i64 o.n)) rfl rfl (wantF_none rfl) Try.underlying3 rfl rfl ((H.blk (k := 0) rfl).at_ rfl) ?_
          refine TF.u (v := (.pointer (some ⟨_, 3, none⟩))) rfl rfl (pr_field (o' := 3) Try.underlying43 rfl (Try.ty3.s) (by decide) rfl rfl) ?_
          refine TF.load (v := (.int .i64 o.m)) rfl rfl (wantF_none rfl) Try.underlying3 rfl rfl ((H.blk (k := 0) rfl).at_ rfl) ?_
          obtain ⟨F15, hF15, hU15⟩ := H.focus (k := 1) rfl
          refine TF.call (args := [(.pointer (some ⟨_, 0, none⟩)), (.int .i64 o.n), (.int .i64 o.m)]) Try.fn16 rfl rfl (wantF_none rfl) rfl (smend_ok _ _ _ _ _ _ hF15 hP.inv.ok (by omega) (by omega) (by omega) (by omega)) ?_
          rintro e_ w ⟨rfl, hu15, ok15⟩
          refine ⟨_, rfl, ?_⟩
          replace H := hU15 hu15
          replace H : Sat _ _ _ [_, _, _] := H
          refine TF.nil (nx_then ?_)
          refine cw_seq ?_
          -- region 14 law.go:188
          refine cw_region (clf [.U]) [0] rfl (by kernel_rfl) (by decide) ?_
          have hP2 := hP.mend o.n o.m
          have hs2 : (sMend s o.n o.m).1.pl.length = 4 := (sMend_plen _ _).trans hs4
          generalize (sMend s o.n o.m).1 = s2 at H hP2 hs2 ok15
          refine TF.u (v := (.int .i64 _)) rfl rfl (pr_move rfl) ?_
          refine TF.nil (nx_then ?_)
          refine cw_block ?_
          refine cw_loop (fun m_q f_q w => ∃ (g_ : Nat → Value) (j : Nat) (ls : List Nat), m_q = 4 - j ∧ f_q = (upd (upd (upd (upd (upd (upd g_ 0 (.slice A_script n_script c_script)) 3 (.pointer (some ⟨tb5, 0, none⟩))) 4 (.pointer (some ⟨bk6, 0, none⟩))) 22 (.int .i64 (n_script : Int))) 23 (.int .i64 (i : Int))) 49 (.int .i64 (j : Int))) ∧ Sat [] w0 w [cStore 60 65 tb5 (s2), cBlk bk6 41 (lastV ls)] ∧ (j ≤ 4) ∧ (SPV s2 (Up ls)) ∧ (ls.length = 4)) (4 - 0) ?_ ?_
          ·
            exact ⟨_, 0, ls, rfl, (cutS (cutS (cutS (cutS (cutS (cutS rfl rfl) rfl) rfl) rfl) rfl) rfl), (((H.front 2 rfl).front 2 rfl).del 2), Nat.zero_le _, hP2, hl4⟩
          ·
            clear H
            rintro m_ f_ w ⟨g_, j, ls, rfl, rfl, H, hj, hP, hl4⟩
            refine cw_seq ?_
            -- region 15 law.go:188
            refine cw_region (clf [.U]) [0] rfl (by kernel_rfl) (by decide) ?_
            refine TF.u (v := (.bool _)) rfl rfl (pr_lss rfl rfl) ?_
            refine TF.nil (nx_then ?_)
            refine cw_seq ?_
            refine cw_cond _ rfl rfl (fun hq17 => ?_) (fun hq17 => ?_)
            ·
              have hp17 := dT hq17
              refine cw_skip (nx_then ?_)
              refine cw_seq ?_
              refine cw_block ?_
              refine cw_seq ?_
              -- region 16 law.go:188
              refine cw_region (clf [.U, .U]) [0, 1] rfl (by kernel_rfl) (by decide) ?_
              refine TF.u (v := (.int .i64 _)) rfl rfl (pr_move rfl) ?_
              refine TF.u (v := (.int .i64 _)) rfl rfl (pr_assign rfl) ?_
              refine TF.nil (nx_then ?_)
              refine cw_seq ?_
              -- region 17 law.go:189
              refine cw_region (clf [.U, .U, .X, .U, .U, .U, .X, .X, .U]) [0, 1, 2, 3, 4, 5, 6, 7, 8] rfl (by kernel_rfl) (by decide) ?_
              skip
              refine TF.u (v := (.pointer (some ⟨_, 0, none⟩))) rfl rfl (pr_move rfl) ?_
              refine TF.u (v := (.int .i64 _)) rfl rfl (pr_move rfl) ?_
              obtain ⟨F19, hF19, hU19⟩ := H.focus (k := 0) rfl
              refine TF.call (args := [(.pointer (some ⟨_, 0, none⟩)), (.int .i64 _)]) Try.fn15 rfl rfl (wantF_none rfl) rfl (sread_ok _ _ _ _ _ hF19 hP.inv.ok (by omega) (by omega)) ?_
              rintro e_ w ⟨rfl, hb18⟩
              refine ⟨_, rfl, ?_⟩
              replace H := H.below hb18
              refine TF.u (v := (.tuple _)) rfl rfl (pr_move rfl) ?_
              refine TF.u (v := (.agg ⟨pgV ((sRead s2 (j : Int)).1)⟩)) rfl rfl (pr_extract (vs := _) rfl rfl) ?_
              refine TF.u (v := (.int .i64 _)) rfl rfl (pr_extract (vs := _) rfl rfl) ?_
              refine TF.alloc H rfl (Cx.xx rfl) (wantF_none rfl) (Try.ty27) rfl ?_
              clear H
              intro bk20 w hltbk20 hb21 H
              replace H : Sat _ _ _ (cBlk _ _ (pgV noPg) :: _) := H
              replace H : Sat _ _ _ [_, _, _] := H
              refine TF.storeN (q := 0) (cs' := pgV ((sRead s2 (j : Int)).1)) H rfl rfl rfl (wantF_none rfl) (Try.ty27.s) rfl rfl (pgV_len (sRead_ok hP.inv.ok _).len) (pgV_one _) (by have h_ : (pgV noPg).length = 17 := (pgV_len noPg_ok.len); omega) (store_all (pgV_len noPg_ok.len)) ?_
              clear H
              intro w ho22 H
              replace H : Sat _ _ _ [_, _, _] := H
              refine TF.u (v := (.int .i64 _)) rfl rfl (pr_assign rfl) ?_
              refine TF.nil (nx_then ?_)
              refine cw_seq ?_
              refine cw_seq ?_
              -- region 18 law.go:190
              refine cw_region (clf [.U, .U]) [0, 1] rfl (by kernel_rfl) (by decide) ?_
              refine TF.u (v := (.int .i64 _)) rfl rfl (pr_move rfl) ?_
              refine TF.u (v := (.bool _)) rfl rfl (pr_eql rfl rfl) ?_
              refine TF.nil (nx_then ?_)
              refine cw_cond _ rfl rfl (fun hq24 => ?_) (fun hq24 => ?_)
              ·
                have hp24 := dT hq24
                refine cw_exit (ex_then (ex_here (nx_then ?_)))
                -- region 22 law.go:188
                refine cw_region (clf [.U, .U]) [0, 1] rfl (by kernel_rfl) (by decide) ?_
                refine TF.u (v := (.int .i64 _)) rfl rfl (pr_add rfl rfl (IntWalk.i64_in _ (by omega))) ?_
                refine TF.u (v := (.int .i64 _)) rfl rfl (pr_move rfl) ?_
                refine TF.nil (nx_loop (m' := 4 - (j + 1)) (by omega) ?_)
                exact ⟨_, j + 1, _, rfl, (cutS (cutS (cutS (cutS (cutS (cutS rfl rfl) rfl) rfl) rfl) rfl) rfl), (((H.front 2 rfl).front 2 rfl).del 2), by omega, hP, hl4⟩
              ·
                have hp24 := dF hq24
                refine cw_skip (nx_then ?_)
                refine cw_seq ?_
                refine cw_seq ?_
                -- region 19 law.go:193
                refine cw_drawS H Try.wide_ (clf [.U, .U, .U, .U, .R, .U, .U, .R, .U, .U]) [0, 1, 2, 3, 4, 5, 6, 7, 8, 9] (by kernel_rfl) (by kernel_rfl) ?_
                clear H
                intro w hbr H hB
                obtain ⟨p_, hp_, hr_, hM_, hrd_⟩ := (hP.read (k := j) (by omega)).resolve_right (fun h_ => absurd h_.1 (by assumption))
                have he_ : (sRead s2 (j : Int)).2 = 0 := congrArg Prod.snd hrd_
                have hl_ : (sRead s2 (j : Int)).1.lsn = p_.lsn := by rw [hrd_]
                have hM2_ : ls.getD j 0 ≤ p_.lsn := hM_
                refine TF.u (v := (.int .i64 _)) rfl rfl (pr_move rfl) ?_
                refine TF.u (v := (.bool _)) rfl rfl (pr_neq rfl rfl) ?_
                refine TF.u (v := (.bool _)) rfl rfl (pr_move rfl) ?_
                refine TF.split (dj := 62) rfl (fun hq26 => by
                    have hp26 := dF (nT hq26)
                    exfalso
                    exact hp26 he_) ?_
                intro hq26
                have hp26 := dT (nF hq26)
                refine TF.ug (v := (.pointer (some ⟨_, 0, none⟩))) rfl rfl (wantF_yes rfl rfl rfl hq26) (pr_field (o' := 0) Try.underlying27 rfl (Try.ty22.s) (by decide) rfl rfl) ?_
                refine TF.loadr (v := (.int .u64 (((sRead s2 (j : Int)).1).lsn : Int))) rfl rfl (wantF_yes rfl rfl rfl hq26) Try.underlying22 rfl rfl ((H.blk (k := 0) rfl).atB rfl) ?_
                refine TF.ug (v := (.int .i64 _)) rfl rfl (wantF_yes rfl rfl rfl hq26) (pr_move rfl) ?_
                refine TF.ug (v := (.pointer (some ⟨_, _, none⟩))) rfl rfl (wantF_yes rfl rfl rfl hq26) (pr_idxA (b := bk6) (o := 0) (a := (j : Int)) Try.underlying41 (Try.ty22.s) rfl rfl (by omega) (by omega)) ?_
                skip
                refine TF.loadr (v := .int .u64 ((ls.getD j 0 : Nat) : Int)) rfl rfl (wantF_yes rfl rfl rfl hq26) Try.underlying22 rfl rfl ((H.blk (k := 2) rfl).atB (lastV_at (by omega))) ?_
                refine TF.ug (v := (.bool _)) rfl rfl (wantF_yes rfl rfl rfl hq26) (pr_lss rfl rfl) ?_
                refine TF.u (v := (.bool _)) rfl rfl (pr_pickF rfl hq26 rfl) ?_
                clear hB
                refine TF.nil (nx_then ?_)
                refine cw_cond _ rfl rfl (fun hq28 => by
                    have hp28 := dT hq28
                    exfalso
                    rw [hl_] at hp28; omega) ?_
                intro hq28
                have hp28 := dF hq28
                refine cw_skip (nx_then ?_)
                -- region 21 law.go:196
                refine cw_region (clf [.U, .U, .X, .U, .X]) [0, 1, 2, 3, 4] rfl (by kernel_rfl) (by decide) ?_
                refine TF.u (v := (.int .i64 _)) rfl rfl (pr_move rfl) ?_
                refine TF.u (v := (.pointer (some ⟨_, 0, none⟩))) rfl rfl (pr_field (o' := 0) Try.underlying27 rfl (Try.ty22.s) (by decide) rfl rfl) ?_
                refine TF.load (v := (.int .u64 (((sRead s2 (j : Int)).1).lsn : Int))) rfl rfl (wantF_none rfl) Try.underlying22 rfl rfl ((H.blk (k := 0) rfl).at_ rfl) ?_
                refine TF.u (v := (.pointer (some ⟨_, _, none⟩))) rfl rfl (pr_idxA (b := bk6) (o := 0) (a := (j : Int)) Try.underlying41 (Try.ty22.s) rfl rfl (by omega) (by omega)) ?_
                skip
                refine TF.store (v := .int .u64 (((sRead s2 (j : Int)).1.lsn : Nat) : Int)) (q := 2) H rfl rfl rfl (wantF_none rfl) (Try.ty22.s) rfl rfl rfl (lastV_blt (by omega)) ?_
                clear H
                intro w ho29 H
                replace H : Sat _ _ _ [_, _, cBlk bk6 _ _] := H
                rw [lastV_set] at H
                refine TF.nil (nx_block (nx_then ?_))
                -- region 22 law.go:188
                refine cw_region (clf [.U, .U]) [0, 1] rfl (by kernel_rfl) (by decide) ?_
                refine TF.u (v := (.int .i64 _)) rfl rfl (pr_add rfl rfl (IntWalk.i64_in _ (by omega))) ?_
                refine TF.u (v := (.int .i64 _)) rfl rfl (pr_move rfl) ?_
                refine TF.nil (nx_loop (m' := 4 - (j + 1)) (by omega) ?_)
                exact ⟨_, j + 1, _, rfl, (cutS (cutS (cutS (cutS (cutS (cutS rfl rfl) rfl) rfl) rfl) rfl) rfl), (((H.front 2 rfl).front 2 rfl).del 2), by omega, hP.seen (by omega) he_, by rw [List.length_set]; exact hl4⟩
            ·
              have hp17 := dF hq17
              refine cw_exit (ex_then (ex_then (ex_here (nx_block (nx_then ?_)))))
              -- region 23 law.go:181
              refine cw_region (clf [.U, .U]) [0, 1] rfl (by kernel_rfl) (by decide) ?_
              refine TF.u (v := (.int .i64 _)) rfl rfl (pr_add rfl rfl (IntWalk.i64_in _ (by omega))) ?_
              refine TF.u (v := (.int .i64 _)) rfl rfl (pr_move rfl) ?_
              refine TF.nil (nx_loop (m' := n_script - (i + 1)) (by omega) ?_)
              exact ⟨_, i + 1, _, _, rfl, (cutS (cutS (cutS (cutS (cutS rfl rfl) rfl) rfl) rfl) rfl), H, by omega, hP, hl4, hs2⟩
        ·
          have hp14 := dF hq14
          -- region 13 law.go:186
          refine cw_region (clf [.U, .U, .X, .U, .X, .U, .X, .U, .X, .X]) [0, 1, 2, 3, 4, 5, 6, 7, 8, 9] rfl (by kernel_rfl) (by decide) ?_
          skip
          refine TF.u (v := (.pointer (some ⟨_, 0, none⟩))) rfl rfl (pr_move rfl) ?_
          refine TF.u (v := (.pointer (some ⟨_, 1, none⟩))) rfl rfl (pr_field (o' := 1) Try.underlying43 rfl (Try.ty3.s) (by decide) rfl rfl) ?_
          refine TF.load (v := (.int .i64 o.n)) rfl rfl (wantF_none rfl) Try.underlying3 rfl rfl ((H.blk (k := 0) rfl).at_ rfl) ?_
          refine TF.u (v := (.pointer (some ⟨_, 2, none⟩))) rfl rfl (pr_field (o' := 2) Try.underlying43 rfl (Try.ty3.s) (by decide) rfl rfl) ?_
          refine TF.load (v := (.int .i64 o.i)) rfl rfl (wantF_none rfl) Try.underlying3 rfl rfl ((H.blk (k := 0) rfl).at_ rfl) ?_
          refine TF.u (v := (.pointer (some ⟨_, 4, none⟩))) rfl rfl (pr_field (o' := 4) Try.underlying43 rfl (Try.ty27.s) (by decide) rfl rfl) ?_
          refine TF.loadE (cs' := pgV o.p) rfl rfl (wantF_none rfl) (Try.ty27.s) rfl rfl (H.blk (k := 0) rfl) (pgV_len hO.p.len) (opV_page hO.p.len) ?_
          refine TF.u (v := (.pointer (some ⟨_, 3, none⟩))) rfl rfl (pr_field (o' := 3) Try.underlying43 rfl (Try.ty3.s) (by decide) rfl rfl) ?_
          refine TF.load (v := (.int .i64 o.m)) rfl rfl (wantF_none rfl) Try.underlying3 rfl rfl ((H.blk (k := 0) rfl).at_ rfl) ?_
          obtain ⟨F30, hF30, hU30⟩ := H.focus (k := 1) rfl
          refine TF.call (args := [(.pointer (some ⟨_, 0, none⟩)), (.int .i64 o.n), (.int .i64 o.i), (.agg ⟨pgV o.p⟩), (.int .i64 o.m)]) Try.fn13 rfl rfl (wantF_none rfl) rfl (swrite_ok _ _ _ _ _ _ o.p hO.p _ hF30 hP.inv.ok (by omega) (by omega) (by omega) (by omega) (by omega) (by omega)) ?_
          rintro e_ w ⟨rfl, hu30, ok30⟩
          refine ⟨_, rfl, ?_⟩
          replace H := hU30 hu30
          replace H : Sat _ _ _ [_, _, _] := H
          refine TF.nil (nx_then ?_)
          refine cw_seq ?_
          -- region 14 law.go:188
          refine cw_region (clf [.U]) [0] rfl (by kernel_rfl) (by decide) ?_
          have hP2 := hP.up_write o.n o.i o9 o.m
          have hs2 : (sWrite s o.n o.i o.p o.m).1.pl.length = 4 := (sWrite_plen _ _ _ _).trans hs4
          generalize (sWrite s o.n o.i o.p o.m).1 = s2 at H hP2 hs2 ok30
          refine TF.u (v := (.int .i64 _)) rfl rfl (pr_move rfl) ?_
          refine TF.nil (nx_then ?_)
          refine cw_block ?_
          refine cw_loop (fun m_q f_q w => ∃ (g_ : Nat → Value) (j : Nat) (ls : List Nat), m_q = 4 - j ∧ f_q = (upd (upd (upd (upd (upd (upd g_ 0 (.slice A_script n_script c_script)) 3 (.pointer (some ⟨tb5, 0, none⟩))) 4 (.pointer (some ⟨bk6, 0, none⟩))) 22 (.int .i64 (n_script : Int))) 23 (.int .i64 (i : Int))) 49 (.int .i64 (j : Int))) ∧ Sat [] w0 w [cStore 60 65 tb5 (s2), cBlk bk6 41 (lastV ls)] ∧ (j ≤ 4) ∧ (SPV s2 (Up ls)) ∧ (ls.length = 4)) (4 - 0) ?_ ?_
          ·
            exact ⟨_, 0, ls, rfl, (cutS (cutS (cutS (cutS (cutS (cutS rfl rfl) rfl) rfl) rfl) rfl) rfl), (((H.front 2 rfl).front 2 rfl).del 2), Nat.zero_le _, hP2, hl4⟩
          ·
            clear H
            rintro m_ f_ w ⟨g_, j, ls, rfl, rfl, H, hj, hP, hl4⟩
            refine cw_seq ?_
            -- region 15 law.go:188
            refine cw_region (clf [.U]) [0] rfl (by kernel_rfl) (by decide) ?_
            refine TF.u (v := (.bool _)) rfl rfl (pr_lss rfl rfl) ?_
            refine TF.nil (nx_then ?_)
            refine cw_seq ?_
            refine cw_cond _ rfl rfl (fun hq32 => ?_) (fun hq32 => ?_)
            ·
              have hp32 := dT hq32
              refine cw_skip (nx_then ?_)
              refine cw_seq ?_
              refine cw_block ?_
              refine cw_seq ?_
              -- region 16 law.go:188
              refine cw_region (clf [.U, .U]) [0, 1] rfl (by kernel_rfl) (by decide) ?_
              refine TF.u (v := (.int .i64 _)) rfl rfl (pr_move rfl) ?_
              refine TF.u (v := (.int .i64 _)) rfl rfl (pr_assign rfl) ?_
              refine TF.nil (nx_then ?_)
              refine cw_seq ?_
              -- region 17 law.go:189
              refine cw_region (clf [.U, .U, .X, .U, .U, .U, .X, .X, .U]) [0, 1, 2, 3, 4, 5, 6, 7, 8] rfl (by kernel_rfl) (by decide) ?_
              skip
              refine TF.u (v := (.pointer (some ⟨_, 0, none⟩))) rfl rfl (pr_move rfl) ?_
              refine TF.u (v := (.int .i64 _)) rfl rfl (pr_move rfl) ?_
              obtain ⟨F34, hF34, hU34⟩ := H.focus (k := 0) rfl
              refine TF.call (args := [(.pointer (some ⟨_, 0, none⟩)), (.int .i64 _)]) Try.fn15 rfl rfl (wantF_none rfl) rfl (sread_ok _ _ _ _ _ hF34 hP.inv.ok (by omega) (by omega)) ?_
              rintro e_ w ⟨rfl, hb33⟩
              refine ⟨_, rfl, ?_⟩
              replace H := H.below hb33
              refine TF.u (v := (.tuple _)) rfl rfl (pr_move rfl) ?_
              refine TF.u (v := (.agg ⟨pgV ((sRead s2 (j : Int)).1)⟩)) rfl rfl (pr_extract (vs := _) rfl rfl) ?_
              refine TF.u (v := (.int .i64 _)) rfl rfl (pr_extract (vs := _) rfl rfl) ?_
              refine TF.alloc H rfl (Cx.xx rfl) (wantF_none rfl) (Try.ty27) rfl ?_
              clear H
              intro bk35 w hltbk35 hb36 H
              replace H : Sat _ _ _ (cBlk _ _ (pgV noPg) :: _) := H
              replace H : Sat _ _ _ [_, _, _] := H
              refine TF.storeN (q := 0) (cs' := pgV ((sRead s2 (j : Int)).1)) H rfl rfl rfl (wantF_none rfl) (Try.ty27.s) rfl rfl (pgV_len (sRead_ok hP.inv.ok _).len) (pgV_one _) (by have h_ : (pgV noPg).length = 17 := (pgV_len noPg_ok.len); omega) (store_all (pgV_len noPg_ok.len)) ?_
              clear H
              intro w ho37 H
              replace H : Sat _ _ _ [_, _, _] := H
              refine TF.u (v := (.int .i64 _)) rfl rfl (pr_assign rfl) ?_
              refine TF.nil (nx_then ?_)
              refine cw_seq ?_
              refine cw_seq ?_
              -- region 18 law.go:190
              refine cw_region (clf [.U, .U]) [0, 1] rfl (by kernel_rfl) (by decide) ?_
              refine TF.u (v := (.int .i64 _)) rfl rfl (pr_move rfl) ?_
              refine TF.u (v := (.bool _)) rfl rfl (pr_eql rfl rfl) ?_
              refine TF.nil (nx_then ?_)
              refine cw_cond _ rfl rfl (fun hq39 => ?_) (fun hq39 => ?_)
              ·
                have hp39 := dT hq39
                refine cw_exit (ex_then (ex_here (nx_then ?_)))
                -- region 22 law.go:188
                refine cw_region (clf [.U, .U]) [0, 1] rfl (by kernel_rfl) (by decide) ?_
                refine TF.u (v := (.int .i64 _)) rfl rfl (pr_add rfl rfl (IntWalk.i64_in _ (by omega))) ?_
                refine TF.u (v := (.int .i64 _)) rfl rfl (pr_move rfl) ?_
                refine TF.nil (nx_loop (m' := 4 - (j + 1)) (by omega) ?_)
                exact ⟨_, j + 1, _, rfl, (cutS (cutS (cutS (cutS (cutS (cutS rfl rfl) rfl) rfl) rfl) rfl) rfl), (((H.front 2 rfl).front 2 rfl).del 2), by omega, hP, hl4⟩
              ·
                have hp39 := dF hq39
                refine cw_skip (nx_then ?_)
                refine cw_seq ?_
                refine cw_seq ?_
                -- region 19 law.go:193
                refine cw_drawS H Try.wide_ (clf [.U, .U, .U, .U, .R, .U, .U, .R, .U, .U]) [0, 1, 2, 3, 4, 5, 6, 7, 8, 9] (by kernel_rfl) (by kernel_rfl) ?_
                clear H
                intro w hbr H hB
                obtain ⟨p_, hp_, hr_, hM_, hrd_⟩ := (hP.read (k := j) (by omega)).resolve_right (fun h_ => absurd h_.1 (by assumption))
                have he_ : (sRead s2 (j : Int)).2 = 0 := congrArg Prod.snd hrd_
                have hl_ : (sRead s2 (j : Int)).1.lsn = p_.lsn := by rw [hrd_]
                have hM2_ : ls.getD j 0 ≤ p_.lsn := hM_
                refine TF.u (v := (.int .i64 _)) rfl rfl (pr_move rfl) ?_
                refine TF.u (v := (.bool _)) rfl rfl (pr_neq rfl rfl) ?_
                refine TF.u (v := (.bool _)) rfl rfl (pr_move rfl) ?_
                refine TF.split (dj := 62) rfl (fun hq41 => by
                    have hp41 := dF (nT hq41)
                    exfalso
                    exact hp41 he_) ?_
                intro hq41
                have hp41 := dT (nF hq41)
                refine TF.ug (v := (.pointer (some ⟨_, 0, none⟩))) rfl rfl (wantF_yes rfl rfl rfl hq41) (pr_field (o' := 0) Try.underlying27 rfl (Try.ty22.s) (by decide) rfl rfl) ?_
                refine TF.loadr (v := (.int .u64 (((sRead s2 (j : Int)).1).lsn : Int))) rfl rfl (wantF_yes rfl rfl rfl hq41) Try.underlying22 rfl rfl ((H.blk (k := 0) rfl).atB rfl) ?_
                refine TF.ug (v := (.int .i64 _)) rfl rfl (wantF_yes rfl rfl rfl hq41) (pr_move rfl) ?_
                refine TF.ug (v := (.pointer (some ⟨_, _, none⟩))) rfl rfl (wantF_yes rfl rfl rfl hq41) (pr_idxA (b := bk6) (o := 0) (a := (j : Int)) Try.underlying41 (Try.ty22.s) rfl rfl (by omega) (by omega)) ?_
                skip
                refine TF.loadr (v := .int .u64 ((ls.getD j 0 : Nat) : Int)) rfl rfl (wantF_yes rfl rfl rfl hq41) Try.underlying22 rfl rfl ((H.blk (k := 2) rfl).atB (lastV_at (by omega))) ?_
                refine TF.ug (v := (.bool _)) rfl rfl (wantF_yes rfl rfl rfl hq41) (pr_lss rfl rfl) ?_
                refine TF.u (v := (.bool _)) rfl rfl (pr_pickF rfl hq41 rfl) ?_
                clear hB
                refine TF.nil (nx_then ?_)
                refine cw_cond _ rfl rfl (fun hq43 => by
                    have hp43 := dT hq43
                    exfalso
                    rw [hl_] at hp43; omega) ?_
                intro hq43
                have hp43 := dF hq43
                refine cw_skip (nx_then ?_)
                -- region 21 law.go:196
                refine cw_region (clf [.U, .U, .X, .U, .X]) [0, 1, 2, 3, 4] rfl (by kernel_rfl) (by decide) ?_
                refine TF.u (v := (.int .i64 _)) rfl rfl (pr_move rfl) ?_
                refine TF.u (v := (.pointer (some ⟨_, 0, none⟩))) rfl rfl (pr_field (o' := 0) Try.underlying27 rfl (Try.ty22.s) (by decide) rfl rfl) ?_
                refine TF.load (v := (.int .u64 (((sRead s2 (j : Int)).1).lsn : Int))) rfl rfl (wantF_none rfl) Try.underlying22 rfl rfl ((H.blk (k := 0) rfl).at_ rfl) ?_
                refine TF.u (v := (.pointer (some ⟨_, _, none⟩))) rfl rfl (pr_idxA (b := bk6) (o := 0) (a := (j : Int)) Try.underlying41 (Try.ty22.s) rfl rfl (by omega) (by omega)) ?_
                skip
                refine TF.store (v := .int .u64 (((sRead s2 (j : Int)).1.lsn : Nat) : Int)) (q := 2) H rfl rfl rfl (wantF_none rfl) (Try.ty22.s) rfl rfl rfl (lastV_blt (by omega)) ?_
                clear H
                intro w ho44 H
                replace H : Sat _ _ _ [_, _, cBlk bk6 _ _] := H
                rw [lastV_set] at H
                refine TF.nil (nx_block (nx_then ?_))
                -- region 22 law.go:188
                refine cw_region (clf [.U, .U]) [0, 1] rfl (by kernel_rfl) (by decide) ?_
                refine TF.u (v := (.int .i64 _)) rfl rfl (pr_add rfl rfl (IntWalk.i64_in _ (by omega))) ?_
                refine TF.u (v := (.int .i64 _)) rfl rfl (pr_move rfl) ?_
                refine TF.nil (nx_loop (m' := 4 - (j + 1)) (by omega) ?_)
                exact ⟨_, j + 1, _, rfl, (cutS (cutS (cutS (cutS (cutS (cutS rfl rfl) rfl) rfl) rfl) rfl) rfl), (((H.front 2 rfl).front 2 rfl).del 2), by omega, hP.seen (by omega) he_, by rw [List.length_set]; exact hl4⟩
            ·
              have hp32 := dF hq32
              refine cw_exit (ex_then (ex_then (ex_here (nx_block (nx_then ?_)))))
              -- region 23 law.go:181
              refine cw_region (clf [.U, .U]) [0, 1] rfl (by kernel_rfl) (by decide) ?_
              refine TF.u (v := (.int .i64 _)) rfl rfl (pr_add rfl rfl (IntWalk.i64_in _ (by omega))) ?_
              refine TF.u (v := (.int .i64 _)) rfl rfl (pr_move rfl) ?_
              refine TF.nil (nx_loop (m' := n_script - (i + 1)) (by omega) ?_)
              exact ⟨_, i + 1, _, _, rfl, (cutS (cutS (cutS (cutS (cutS rfl rfl) rfl) rfl) rfl) rfl), H, by omega, hP, hl4, hs2⟩
      ·
        have hp9 := dF hq9
        refine cw_exit (ex_then (ex_then (ex_here (nx_then ?_))))
        refine cw_seq ?_
        -- region 24 law.go:199
        refine cw_region (clf [.U]) [0] rfl (by kernel_rfl) (by decide) ?_
        refine TF.u (v := (.bool _)) rfl rfl (pr_assign rfl) ?_
        refine TF.nil (nx_then ?_)
        refine cw_ret (fin1 (v := (.bool _)) Try.results4 rfl rfl ?_)
        exact ⟨by simp, H.base⟩
end Go.Proofs.Ytpncaeadbfdflaa
namespace Go.Proofs.Ytpncaeadbfdflaa
open Go.ChangeShapes Go.WideShapes Go.ChangeAt Go.RowKit
open Go.ChangeMaps (open_string shut_string)
theorem storeRises_own : ownKnob Try.prog.godebug = none := by kernel_rfl
theorem storeRises_laid : laidOutB Try.prog = true := by kernel_rfl
set_option maxRecDepth 100000 in
theorem storeRises_lifted (os : Os) (started : os.Started) (H : Type) (enc : TypeId × Value → H) :
    ReturnsInHanded {} Try.checked os 4 .any (Rows.storeRisesSpec.pre6 enc Try.prog Try.f4 Rows.storeRisesRow.domain false) (Rows.storeRisesSpec.post enc Try.prog Try.f4 false true false false) := by
  refine returnsInHanded_of_change_sized (C := Try.checked) storeRises_own started (by kernel_rfl) Try.func4
    (ChangeSpec.witness6 (enc := enc) (C := Try.checked) false ⟨#[], #[.slice none 0 0], []⟩ 8 (by kernel_rfl) (by kernel_rfl) (by kernel_rfl) (by kernel_rfl)) ?_
  intro W base args ds gs before hval0 hW hcnd hsz0 _
  have hval : ∀ (j : Nat) t v, Try.f4.params[j]? = some t → args[j]? = some v → Value.okWide Try.prog W .any base t v := hval0
  have hW' := hW
  obtain ⟨p, q, hA0, hV, rfl, hfz, hnd⟩ := hW
  have hA : DataW.TrodAll enc Try.prog W 0 (fun _ => true) true Try.f4.params.toList args.toList ds p := hA0
  have hsz : (DataW.weightsEach Try.prog (Try.f4.params.toList ++ Rows.storeRisesSpec.plain.varTypes Try.prog) (ds ++ gs)).all (· ≤ reachBytes) = true := hsz0
  rw [Try.params4] at hA hval hsz
  obtain ⟨v0, vs0, d0, ds0, p0, q0, hargs, rfl, rfl, h0, r0⟩ := trodAll_cons hA
  obtain ⟨rfl, rfl, rfl⟩ := trodAll_nil r0
  obtain rfl : args = #[v0] := by cases args; simp_all
  obtain ⟨rfl, rfl⟩ := trodVars_none hV
  have k0 := h0
  have lt0 : ∀ x ∈ p0, x.block < W.heap.size := by obtain ⟨m, hm⟩ := k0; exact DataW.trod_lt m _ _ _ hm
  obtain ⟨fu0, hf0⟩ := h0
  obtain ⟨A0, n0, c0, rfl⟩ := okWide_slice Try.underlying40 (hval 0 40 v0 rfl rfl)
  obtain ⟨A0', n0', c0', l0, he0, hr0, hl0, ho0⟩ := Go.Q.OT.slice (P := Try.prog) (t := 40) (sz := 21) Go.Q.opV Go.Q.OpOk ⟨fu0, _, hf0⟩ Try.underlying40 (by kernel_rfl) (fun cs_ h1_ => h1_.op (Try.underlying43) rfl Try.underlying3 (by kernel_rfl) (fun cs_ h_ => h_.page (Try.underlying27) rfl Try.underlying22 Try.underlying25 Try.underlying24 rfl Try.underlying4 Try.underlying9 (by kernel_rfl))) (fun a ha => Go.Q.opV_len ha.p.len)
  obtain ⟨rfl, rfl, rfl⟩ : A0 = A0' ∧ n0 = n0' ∧ c0 = c0' := by simpa [Value.cells] using he0
  clear hA0 hval0
  refine (StoreRises_ok A0 n0 c0 l0 W hr0 hl0 ho0).mono fun e W' ⟨he, bel⟩ => ?_
  subst he
  exact ⟨_, rfl, _, _, _, [], _, [], hW', trodAll_mk1 (shut_bool Try.underlying4 _), (trodAll_cons_mk (Below.trod storeRises_laid (by kernel_rfl) (of_decide_eq_true (by kernel_rfl)) k0 bel lt0) trodAll_mk0), rfl, bel.frame _, fun h => by cases h⟩
theorem storeRises_holds : Rows.StoreRisesSaid :=
  OpenClaim.holds_of_wide 4 Try.f4 rfl rfl rfl rfl rfl rfl rfl ⟨rfl, rfl, rfl, rfl, rfl⟩ rfl rfl rfl rfl rfl (by kernel_rfl) Try.func4 (by kernel_rfl)
    (of_decide_eq_true (by kernel_rfl)) (by unfold Func.isWrapper; first | (rw [if_pos (by decide +kernel)]; kernel_rfl) | (rw [if_neg (by decide +kernel)]; exact ⟨rfl, rfl⟩))
    (fun os started H enc _ => storeRises_lifted os started H enc)
end Go.Proofs.Ytpncaeadbfdflaa
