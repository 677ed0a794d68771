/- The given statement Rows.TapePlaysSaid: quayside/quaysidelaw08.TapePlays returns true for all arguments, and leaves its arguments as they were. No further condition. -/
import Derived.Test.YtdanpfiombbdoaaFns1
import Derived.Test.YtdanpfiombbdoaaRows
import Derived.Test.YtdanpfiombbdoaaArgs
import Derived.WalkKit
import Derived.ProofKit
import Derived.OpenShut
import Derived.ShutString
import Derived.ChangeOld
import Derived.Below
import Derived.SizedLaws
import Derived.JoinedCond
set_option linter.unusedSimpArgs false
set_option linter.unusedVariables false
set_option maxRecDepth 10000
namespace Go.Proofs.Ytdanpfiombbdoaa
open Go.Q Go.RowKit Go.Proofs
theorem Try.fn10 : Fnc Try.prog 10 Try.f10 := ⟨Try.func10, by kernel_rfl, by kernel_rfl⟩
theorem Try.fn20 : Fnc Try.prog 20 Try.f20 := ⟨Try.func20, by kernel_rfl, by kernel_rfl⟩
theorem Try.fn21 : Fnc Try.prog 21 Try.f21 := ⟨Try.func21, by kernel_rfl, by kernel_rfl⟩
theorem Try.fn22 : Fnc Try.prog 22 Try.f22 := ⟨Try.func22, by kernel_rfl, by kernel_rfl⟩
theorem TapePlays_ok (room : Int) (zero : Bool) (A_script : Option Addr) (n_script c_script : Nat) (script : List (Int × Int × List UInt8)) (w0 : World) (hroom1 : -9223372036854775808 ≤ room) (hroom2 : room ≤ 9223372036854775807) (h_script : RdS w0 3 A_script n_script c_script (script.flatMap (fun o : Int × Int × List UInt8 => [(.int .i64 o.1), (.int .i64 o.2.1), (T o.2.2)]))) (hl_script : script.length = n_script) (hok_script : ∀ o ∈ script, -9223372036854775808 ≤ o.1 ∧ o.1 ≤ 9223372036854775807 ∧ -9223372036854775808 ≤ o.2.1 ∧ o.2.1 ≤ 9223372036854775807 ∧ o.2.2.length ≤ 9223372036854775807) :
    Calls Try.prog 7 #[.int .i64 room, .bool zero, .slice A_script n_script c_script] w0 fun e w => e = .returned (.bool true) ∧ Below w0.heap.size w0 w := by
  refine enter (args := [.int .i64 room, .bool zero, .slice A_script n_script c_script]) Try.func7 rfl Try.ntmps7 rfl ?_
  have H := Sat.start w0
  refine cw_seq ?_
  -- region 0 law.go:64
  refine cw_region (clf [.U]) [0] rfl (by kernel_rfl) (by decide) ?_
  refine TF.u (v := (.bool _)) rfl rfl (pr_assign rfl) ?_
  refine TF.nil (nx_then ?_)
  refine cw_seq ?_
  refine cw_seq ?_
  -- region 1 law.go:65
  refine cw_region (clf [.X, .U, .U, .U, .X, .U, .U]) [0, 1, 2, 3, 4, 5, 6] rfl (by kernel_rfl) (by decide) ?_
  refine TF.call (args := []) Try.fn10 rfl rfl (wantF_none rfl) rfl (awake_ok _) ?_
  rintro e_ w ⟨rfl, hb1⟩
  refine ⟨_, rfl, ?_⟩
  replace H := H.below hb1
  refine TF.u (v := (.bool _)) rfl rfl (pr_not rfl) ?_
  refine TF.u (v := (.bool _)) rfl rfl (pr_move rfl) ?_
  refine TF.ug (v := (.slice _ _ _)) rfl rfl (wantF_yes rfl rfl rfl rfl) (pr_move rfl) ?_
  refine TF.call (args := [(.slice _ _ _)]) Try.fn20 rfl rfl (wantF_yes rfl rfl rfl rfl) rfl (few_ok _ _ _ script _ (h_script.below H.base) hl_script hok_script) ?_
  rintro e_ w ⟨rfl, hb2⟩
  refine ⟨_, rfl, ?_⟩
  replace H := H.below hb2
  refine TF.ug (v := (.bool _)) rfl rfl (wantF_yes rfl rfl rfl rfl) (pr_not rfl) ?_
  refine TF.u (v := (.bool _)) rfl rfl (pr_pickF rfl rfl rfl) ?_
  refine TF.nil (nx_then ?_)
  refine cw_cond _ rfl rfl (fun hq4 => ?_) (fun hq4 => ?_)
  ·
    have hp4 := (nT hq4)
    refine cw_seq ?_
    -- region 2 law.go:66
    refine cw_region (clf [.X, .U]) [0, 1] rfl (by kernel_rfl) (by decide) ?_
    refine TF.call (args := []) Try.fn10 rfl rfl (wantF_none rfl) rfl (awake_ok _) ?_
    rintro e_ w ⟨rfl, hb5⟩
    refine ⟨_, rfl, ?_⟩
    replace H := H.below hb5
    refine TF.u (v := (.bool _)) rfl rfl (pr_assign rfl) ?_
    refine TF.nil (nx_then ?_)
    refine cw_ret (rt_then (fin1 (v := (.bool _)) Try.results7 rfl rfl ?_))
    exact ⟨by simp, H.base⟩
  ·
    have hp4 := (nF hq4)
    refine cw_skip (nx_then ?_)
    refine cw_seq ?_
    -- region 3 law.go:68
    refine cw_region (clf [.U, .X, .U, .X, .U, .U]) [0, 1, 2, 3, 4, 5] rfl (by kernel_rfl) (by decide) ?_
    refine TF.u (v := (.int .i64 _)) rfl rfl (pr_move rfl) ?_
    refine TF.call (args := [(.int .i64 _)]) Try.fn11 rfl rfl (wantF_none rfl) rfl (tnew_ok _ _ (by omega) (by omega)) ?_
    rintro e_ w ⟨tb6, rfl, hn6, ok6⟩
    refine ⟨_, rfl, ?_⟩
    replace H := H.newC hn6
    replace H : Sat _ _ _ [_] := H
    refine TF.u (v := (.int .i64 _)) rfl rfl (pr_move rfl) ?_
    refine TF.call (args := [(.int .i64 _)]) Try.fn21 rfl rfl (wantF_none rfl) rfl (rtnew_ok _ _ (by omega) (by omega)) ?_
    rintro e_ w ⟨tb7, rfl, hn7, ok7⟩
    refine ⟨_, rfl, ?_⟩
    replace H := H.newC hn7
    replace H : Sat _ _ _ [_, _] := H
    refine TF.u (v := (.pointer (some ⟨_, 0, none⟩))) rfl rfl (pr_assign rfl) ?_
    refine TF.u (v := (.pointer (some ⟨_, 0, none⟩))) rfl rfl (pr_assign rfl) ?_
    refine TF.nil (nx_then ?_)
    refine cw_seq ?_
    refine cw_seq ?_
    -- region 4 law.go:69
    refine cw_region (clf [.U]) [0] rfl (by kernel_rfl) (by decide) ?_
    refine TF.u (v := (.bool _)) rfl rfl (pr_move rfl) ?_
    refine TF.nil (nx_then ?_)
    refine cw_cond _ rfl rfl (fun hq8 => ?_) (fun hq8 => ?_)
    ·
      have hp8 := hq8
      -- region 5 law.go:70
      refine cw_region (clf [.U, .X, .X, .U, .U]) [0, 1, 2, 3, 4] rfl (by kernel_rfl) (by decide) ?_
      refine TF.u (v := (.agg ⟨[(.slice none 0 0), (.int .i64 0), (.int .i64 0), (.int .u64 0)]⟩)) rfl rfl (pr_build (cs := [(.slice none 0 0), (.int .i64 0), (.int .i64 0), (.int .u64 0)]) Try.bld44 rfl rfl) ?_
      refine TF.box (v := (.agg ⟨[_, _, _, _]⟩)) H rfl (Cx.xx rfl) (wantF_none rfl) rfl rfl ?_
      clear H
      intro bk9 w hltbk9 hb10 H
      refine TF.call (args := [(.int .i64 _)]) Try.fn21 rfl rfl (wantF_none rfl) rfl (rtnew_ok 0 _ (by omega) (by omega)) ?_
      rintro e_ w ⟨tb11, rfl, hn11, ok11⟩
      refine ⟨_, rfl, ?_⟩
      replace H := H.newC hn11
      replace H : Sat _ _ _ [_, _, _, _] := H
      refine TF.u (v := (.pointer (some ⟨_, 0, none⟩))) rfl rfl (pr_assign rfl) ?_
      refine TF.u (v := (.pointer (some ⟨_, 0, none⟩))) rfl rfl (pr_assign rfl) ?_
      replace H := H.newS (NewS.nil _ 5 1)
      replace H := H.front 2 rfl
      replace H := H.front 1 rfl
      replace H : Sat [] w0 _ (cTape 5 44 bk9 (tNew 0) :: _) := Sat.ex (none, 0, 0) H.sep
      replace H : Sat _ _ _ [_, _, _, _] := H
      have okz := tNew_ok 0
      refine TF.nil (nx_then ?_)
      refine cw_seq ?_
      refine cw_seq ?_
      -- region 6 law.go:72
      refine cw_region (clf [.U, .U]) [0, 1] rfl (by kernel_rfl) (by decide) ?_
      refine TF.u (v := (.pointer (some ⟨_, 0, none⟩))) rfl rfl (pr_move rfl) ?_
      refine TF.u (v := (.bool _)) rfl rfl (pr_peql Try.underlying23 rfl rfl) ?_
      refine TF.nil (nx_then ?_)
      refine cw_condF (t := _) rfl rfl rfl ?_
      refine cw_skip (nx_then ?_)
      refine cw_seq ?_
      refine cw_seq ?_
      -- region 8 law.go:75
      refine cw_region (clf [.U, .U, .U]) [0, 1, 2] rfl (by kernel_rfl) (by decide) ?_
      obtain ⟨hfl, hfew⟩ := fewS_len (by assumption)
      refine TF.u (v := (.slice _ _ _)) rfl rfl (pr_move rfl) ?_
      refine TF.u (v := (.int .i64 _)) rfl rfl (pr_len rfl Try.underlying38 rfl) ?_
      refine TF.u (v := (.int .i64 _)) rfl rfl (pr_move rfl) ?_
      refine TF.nil (nx_then ?_)
      refine cw_block ?_
      refine cw_loop (fun m f w => ∃ (g_ : Nat → Value) (i : Nat) (s : TS), m = n_script - i ∧ f = (upd (upd (upd (upd (upd g_ 2 (.slice A_script n_script c_script)) 7 (.pointer (some ⟨bk9, 0, none⟩))) 8 (.pointer (some ⟨tb11, 0, none⟩))) 29 (.int .i64 (n_script : Int))) 30 (.int .i64 (i : Int))) ∧ Sat [] w0 w [cTape 5 44 bk9 s, cRTape 49 tb11 s] ∧ (i ≤ n_script) ∧ (TOk s)) (n_script - 0) ?_ ?_
      ·
        exact ⟨_, 0, _, rfl, (cutS (cutS (cutS (cutS (cutS rfl rfl) rfl) rfl) rfl) rfl), (H.two (i := 0) (j := 0) rfl rfl), Nat.zero_le _, okz⟩
      ·
        clear H
        rintro m_ f_ w ⟨g_, i, s, rfl, rfl, H, hi, oks⟩
        have okr := oks
        refine cw_seq ?_
        -- region 9 law.go:75
        refine cw_region (clf [.U]) [0] rfl (by kernel_rfl) (by decide) ?_
        refine TF.u (v := (.bool _)) rfl rfl (pr_lss rfl rfl) ?_
        refine TF.nil (nx_then ?_)
        refine cw_seq ?_
        refine cw_cond _ rfl rfl (fun hq13 => ?_) (fun hq13 => ?_)
        ·
          have hp13 := dT hq13
          refine cw_skip (nx_then ?_)
          refine cw_seq ?_
          refine cw_block ?_
          refine cw_seq ?_
          -- region 10 law.go:75
          refine cw_region (clf [.U, .U]) [0, 1] rfl (by kernel_rfl) (by decide) ?_
          refine TF.u (v := (.int .i64 _)) rfl rfl (pr_move rfl) ?_
          refine TF.u (v := (.int .i64 _)) rfl rfl (pr_assign rfl) ?_
          refine TF.nil (nx_then ?_)
          refine cw_seq ?_
          -- region 11 law.go:76
          replace H := (H.two (i := 0) (j := 0) rfl rfl).sep
          refine cw_drawF (k := 0) H rfl Try.wide_ (clf [.U, .U, .U, .U, .U, .R, .P, .U, .U, .U, .P, .R, .U, .U, .U, .R, .U, .U]) [0, 1, 2, 3, 4, 5, 6, 7, 8, 9, 12, 13, 14, 15, 10, 11, 16, 17] (by kernel_rfl) (by kernel_rfl) ?_
          clear H
          intro w F_ hbr H hF_ hU_ hB0
          skip
          refine TF.u (v := (.pointer (some ⟨_, 0, none⟩))) rfl rfl (pr_move rfl) ?_
          refine TF.u (v := (.pointer (some ⟨_, 0, none⟩))) rfl rfl (pr_move rfl) ?_
          refine TF.u (v := (.slice _ _ _)) rfl rfl (pr_move rfl) ?_
          refine TF.u (v := (.int .i64 _)) rfl rfl (pr_move rfl) ?_
          obtain ⟨o16, ho16⟩ : ∃ o, script[i]? = some o := ⟨_, List.getElem?_eq_getElem (by omega)⟩
          have hko16 := hok_script o16 (List.mem_of_getElem? ho16)
          obtain ⟨hko16_0, hko16_1, hko16_2, hko16_3, hko16_4⟩ := hko16
          have hel := hfew o16 (List.mem_of_getElem? ho16)
          refine TF.idx h_script rfl rfl (wantF_none rfl) Try.underlying38 (Try.ty47.s) rfl rfl (by omega) (by omega) ?_
          intro p14 hc15
          replace hc15 : ∀ j u, j < 3 → ((fun o : Int × Int × List UInt8 => [(.int .i64 o.1), (.int .i64 o.2.1), (T o.2.2)]) o16)[j]? = some u → w0.cell? (p14.add j) = some u := fun j u hj hu => hc15 j u hj ((flat_at (fun o : Int × Int × List UInt8 => [(.int .i64 o.1), (.int .i64 o.2.1), (T o.2.2)]) 3 _ (fun _ => rfl) ho16 hj).trans hu)
          refine TF.loadNr (cs := [(.int .i64 o16.1), (.int .i64 o16.2.1), (T o16.2.2)]) rfl rfl (wantF_none rfl) (Try.ty47.s) rfl rfl rfl (fun w_ hw_ j u hj => below_cell (hB0 w_ hw_) (hc15 j u (List.getElem?_eq_some_iff.1 hj).1 hj)) ?_
          refine TF.callp (args := [(.pointer (some ⟨_, 0, none⟩)), (.pointer (some ⟨_, 0, none⟩)), (.agg ⟨[(.int .i64 o16.1), (.int .i64 o16.2.1), (T o16.2.2)]⟩)]) Try.fn22 rfl rfl (wantF_none rfl) rfl (does_ok _ _ _ _ _ _ _ _ hF_ oks (by omega) (by omega) (by omega) (by omega) (by omega)) ?_
          rintro e_ w ⟨rfl, hu17, ok17⟩
          refine ⟨_, rfl, fun x => Below w.heap.size w x, fun x hx => hu17.1.trans (Only.of_below _ hx), Below.refl _ _, ?_⟩
          have hB := Below.refl w.heap.size w
          replace H := (hU_ hu17).unsep
          replace H : Sat _ _ _ [_, _] := H
          refine TF.u (v := (.bool _)) rfl rfl (pr_not rfl) ?_
          refine TF.u (v := (.bool _)) rfl rfl (pr_move rfl) ?_
          refine TF.ug (v := (.pointer (some ⟨_, 0, none⟩))) rfl rfl (wantF_yes rfl rfl rfl rfl) (pr_move rfl) ?_
          refine TF.ug (v := (.pointer (some ⟨_, 0, none⟩))) rfl rfl (wantF_yes rfl rfl rfl rfl) (pr_move rfl) ?_
          refine TF.ug (v := (.pointer (some _))) rfl rfl (wantF_yes rfl rfl rfl rfl) (pr_nil rfl) ?_
          refine TF.ug (v := (.pointer (some ⟨_, 0, none⟩))) rfl rfl (wantF_yes rfl rfl rfl rfl) (pr_field (o' := 0) Try.underlying49 rfl (Try.ty9.s) (by decide) rfl rfl) ?_
          refine TF.loadr (v := (T _)) rfl rfl (wantF_yes rfl rfl rfl rfl) Try.underlying9 rfl rfl ((H.blk (k := 1) rfl).atB rfl) ?_
          obtain ⟨F18, hF18, hU18⟩ := H.focus (k := 0) rfl
          refine TF.callp (args := [(.pointer (some ⟨_, 0, none⟩))]) Try.fn13 rfl rfl (wantF_yes rfl rfl rfl rfl) rfl (tbytes_ok _ _ _ _ hF18 ok17) ?_
          rintro e_ w ⟨A18, n18, c18, rfl, hn18⟩
          refine ⟨_, rfl, fun x => Below w.heap.size w x, fun x hx => below_trans (below_trans hB hn18.below) hx, Below.refl _ _, ?_⟩
          replace hB := Below.refl w.heap.size w
          replace H := H.newS hn18
          refine TF.tostrr (RdS.all (H.rd (k := 0) rfl)) rfl rfl (wantF_yes rfl rfl rfl rfl) Try.underlying25 Try.underlying5 Try.underlying9 rfl ?_
          refine TF.ug (v := (.bool _)) rfl rfl (wantF_yes rfl rfl rfl rfl) (pr_sneq rfl rfl) ?_
          refine TF.u (v := (.bool _)) rfl rfl (pr_pickF rfl rfl rfl) ?_
          clear hB
          refine TF.nil (nx_then ?_)
          refine cw_cond _ rfl rfl (fun hq21 => by
              have hp21 := eF (nT hq21)
              exfalso
              first | omega | exact hp21 rfl | exact hp21 (by decide) | (simp at hp21; done) | (simp at hp21; omega)) ?_
          intro hq21
          have hp21 := eT (nF hq21)
          refine cw_skip (nx_block (nx_then ?_))
          -- region 13 law.go:75
          refine cw_region (clf [.U, .U]) [0, 1] rfl (by kernel_rfl) (by decide) ?_
          refine TF.u (v := (.int .i64 _)) rfl rfl (pr_add rfl rfl (IntWalk.i64_in _ (by omega))) ?_
          refine TF.u (v := (.int .i64 _)) rfl rfl (pr_move rfl) ?_
          refine TF.nil (nx_loop (m' := n_script - (i + 1)) (by omega) ?_)
          exact ⟨_, i + 1, _, rfl, (cutS (cutS (cutS (cutS (cutS rfl rfl) rfl) rfl) rfl) rfl), (H.del 0), by omega, ok17⟩
        ·
          have hp13 := dF hq13
          refine cw_exit (ex_then (ex_then (ex_here (nx_then ?_))))
          refine cw_seq ?_
          -- region 14 law.go:80
          refine cw_drawS H Try.wide_ (clf [.U, .P, .U, .U, .U, .R, .U, .U, .U]) [0, 2, 3, 4, 5, 6, 1, 7, 8] (by kernel_rfl) (by kernel_rfl) ?_
          clear H
          intro w hbr H hB
          skip
          refine TF.u (v := (.pointer (some ⟨_, 0, none⟩))) rfl rfl (pr_move rfl) ?_
          refine TF.u (v := (.pointer (some ⟨_, 0, none⟩))) rfl rfl (pr_move rfl) ?_
          refine TF.u (v := (.pointer (some _))) rfl rfl (pr_nil rfl) ?_
          refine TF.u (v := (.pointer (some ⟨_, 0, none⟩))) rfl rfl (pr_field (o' := 0) Try.underlying49 rfl (Try.ty9.s) (by decide) rfl rfl) ?_
          refine TF.loadr (v := (T _)) rfl rfl (wantF_none rfl) Try.underlying9 rfl rfl ((H.blk (k := 1) rfl).atB rfl) ?_
          refine TF.u (v := (.int .i64 _)) rfl rfl (pr_slen rfl Try.underlying9 rfl) ?_
          obtain ⟨F23, hF23, hU23⟩ := H.focus (k := 0) rfl
          refine TF.callp (args := [(.pointer (some ⟨_, 0, none⟩))]) Try.fn17 rfl rfl (wantF_none rfl) rfl (tlen_ok _ _ _ _ hF23 oks) ?_
          rintro e_ w ⟨rfl, hb22⟩
          refine ⟨_, rfl, fun x => Below w.heap.size w x, fun x hx => below_trans (below_trans hB hb22) hx, Below.refl _ _, ?_⟩
          replace hB := Below.refl w.heap.size w
          replace H := H.below hb22
          refine TF.u (v := (.bool _)) rfl rfl (pr_eql rfl rfl) ?_
          refine TF.u (v := (.bool _)) rfl rfl (pr_assign rfl) ?_
          clear hB
          refine TF.nil (nx_then ?_)
          refine cw_ret (fin1 (v := (.bool _)) Try.results7 rfl rfl ?_)
          exact ⟨by simp, H.base⟩
    ·
      have hp8 := hq8
      refine cw_skip (nx_then ?_)
      refine cw_seq ?_
      refine cw_seq ?_
      -- region 6 law.go:72
      refine cw_region (clf [.U, .U]) [0, 1] rfl (by kernel_rfl) (by decide) ?_
      refine TF.u (v := (.pointer (some ⟨_, 0, none⟩))) rfl rfl (pr_move rfl) ?_
      refine TF.u (v := (.bool _)) rfl rfl (pr_peql Try.underlying23 rfl rfl) ?_
      refine TF.nil (nx_then ?_)
      refine cw_condF (t := _) rfl rfl rfl ?_
      refine cw_skip (nx_then ?_)
      refine cw_seq ?_
      refine cw_seq ?_
      -- region 8 law.go:75
      refine cw_region (clf [.U, .U, .U]) [0, 1, 2] rfl (by kernel_rfl) (by decide) ?_
      obtain ⟨hfl, hfew⟩ := fewS_len (by assumption)
      refine TF.u (v := (.slice _ _ _)) rfl rfl (pr_move rfl) ?_
      refine TF.u (v := (.int .i64 _)) rfl rfl (pr_len rfl Try.underlying38 rfl) ?_
      refine TF.u (v := (.int .i64 _)) rfl rfl (pr_move rfl) ?_
      refine TF.nil (nx_then ?_)
      refine cw_block ?_
      refine cw_loop (fun m f w => ∃ (g_ : Nat → Value) (i : Nat) (s : TS), m = n_script - i ∧ f = (upd (upd (upd (upd (upd g_ 2 (.slice A_script n_script c_script)) 7 (.pointer (some ⟨tb6, 0, none⟩))) 8 (.pointer (some ⟨tb7, 0, none⟩))) 29 (.int .i64 (n_script : Int))) 30 (.int .i64 (i : Int))) ∧ Sat [] w0 w [cTape 5 44 tb6 s, cRTape 49 tb7 s] ∧ (i ≤ n_script) ∧ (TOk s)) (n_script - 0) ?_ ?_
      ·
        exact ⟨_, 0, _, rfl, (cutS (cutS (cutS (cutS (cutS rfl rfl) rfl) rfl) rfl) rfl), (H.two (i := 1) (j := 0) rfl rfl), Nat.zero_le _, ok6⟩
      ·
        clear H
        rintro m_ f_ w ⟨g_, i, s, rfl, rfl, H, hi, oks⟩
        have okr := oks
        refine cw_seq ?_
        -- region 9 law.go:75
        refine cw_region (clf [.U]) [0] rfl (by kernel_rfl) (by decide) ?_
        refine TF.u (v := (.bool _)) rfl rfl (pr_lss rfl rfl) ?_
        refine TF.nil (nx_then ?_)
        refine cw_seq ?_
        refine cw_cond _ rfl rfl (fun hq26 => ?_) (fun hq26 => ?_)
        ·
          have hp26 := dT hq26
          refine cw_skip (nx_then ?_)
          refine cw_seq ?_
          refine cw_block ?_
          refine cw_seq ?_
          -- region 10 law.go:75
          refine cw_region (clf [.U, .U]) [0, 1] rfl (by kernel_rfl) (by decide) ?_
          refine TF.u (v := (.int .i64 _)) rfl rfl (pr_move rfl) ?_
          refine TF.u (v := (.int .i64 _)) rfl rfl (pr_assign rfl) ?_
          refine TF.nil (nx_then ?_)
          refine cw_seq ?_
          -- region 11 law.go:76
          replace H := (H.two (i := 0) (j := 0) rfl rfl).sep
          refine cw_drawF (k := 0) H rfl Try.wide_ (clf [.U, .U, .U, .U, .U, .R, .P, .U, .U, .U, .P, .R, .U, .U, .U, .R, .U, .U]) [0, 1, 2, 3, 4, 5, 6, 7, 8, 9, 12, 13, 14, 15, 10, 11, 16, 17] (by kernel_rfl) (by kernel_rfl) ?_
          clear H
          intro w F_ hbr H hF_ hU_ hB0
          skip
          refine TF.u (v := (.pointer (some ⟨_, 0, none⟩))) rfl rfl (pr_move rfl) ?_
          refine TF.u (v := (.pointer (some ⟨_, 0, none⟩))) rfl rfl (pr_move rfl) ?_
          refine TF.u (v := (.slice _ _ _)) rfl rfl (pr_move rfl) ?_
          refine TF.u (v := (.int .i64 _)) rfl rfl (pr_move rfl) ?_
          obtain ⟨o29, ho29⟩ : ∃ o, script[i]? = some o := ⟨_, List.getElem?_eq_getElem (by omega)⟩
          have hko29 := hok_script o29 (List.mem_of_getElem? ho29)
          obtain ⟨hko29_0, hko29_1, hko29_2, hko29_3, hko29_4⟩ := hko29
          have hel := hfew o29 (List.mem_of_getElem? ho29)
          refine TF.idx h_script rfl rfl (wantF_none rfl) Try.underlying38 (Try.ty47.s) rfl rfl (by omega) (by omega) ?_
          intro p27 hc28
          replace hc28 : ∀ j u, j < 3 → ((fun o : Int × Int × List UInt8 => [(.int .i64 o.1), (.int .i64 o.2.1), (T o.2.2)]) o29)[j]? = some u → w0.cell? (p27.add j) = some u := fun j u hj hu => hc28 j u hj ((flat_at (fun o : Int × Int × List UInt8 => [(.int .i64 o.1), (.int .i64 o.2.1), (T o.2.2)]) 3 _ (fun _ => rfl) ho29 hj).trans hu)
          refine TF.loadNr (cs := [(.int .i64 o29.1), (.int .i64 o29.2.1), (T o29.2.2)]) rfl rfl (wantF_none rfl) (Try.ty47.s) rfl rfl rfl (fun w_ hw_ j u hj => below_cell (hB0 w_ hw_) (hc28 j u (List.getElem?_eq_some_iff.1 hj).1 hj)) ?_
          refine TF.callp (args := [(.pointer (some ⟨_, 0, none⟩)), (.pointer (some ⟨_, 0, none⟩)), (.agg ⟨[(.int .i64 o29.1), (.int .i64 o29.2.1), (T o29.2.2)]⟩)]) Try.fn22 rfl rfl (wantF_none rfl) rfl (does_ok _ _ _ _ _ _ _ _ hF_ oks (by omega) (by omega) (by omega) (by omega) (by omega)) ?_
          rintro e_ w ⟨rfl, hu30, ok30⟩
          refine ⟨_, rfl, fun x => Below w.heap.size w x, fun x hx => hu30.1.trans (Only.of_below _ hx), Below.refl _ _, ?_⟩
          have hB := Below.refl w.heap.size w
          replace H := (hU_ hu30).unsep
          replace H : Sat _ _ _ [_, _] := H
          refine TF.u (v := (.bool _)) rfl rfl (pr_not rfl) ?_
          refine TF.u (v := (.bool _)) rfl rfl (pr_move rfl) ?_
          refine TF.ug (v := (.pointer (some ⟨_, 0, none⟩))) rfl rfl (wantF_yes rfl rfl rfl rfl) (pr_move rfl) ?_
          refine TF.ug (v := (.pointer (some ⟨_, 0, none⟩))) rfl rfl (wantF_yes rfl rfl rfl rfl) (pr_move rfl) ?_
          refine TF.ug (v := (.pointer (some _))) rfl rfl (wantF_yes rfl rfl rfl rfl) (pr_nil rfl) ?_
          refine TF.ug (v := (.pointer (some ⟨_, 0, none⟩))) rfl rfl (wantF_yes rfl rfl rfl rfl) (pr_field (o' := 0) Try.underlying49 rfl (Try.ty9.s) (by decide) rfl rfl) ?_
          refine TF.loadr (v := (T _)) rfl rfl (wantF_yes rfl rfl rfl rfl) Try.underlying9 rfl rfl ((H.blk (k := 1) rfl).atB rfl) ?_
          obtain ⟨F31, hF31, hU31⟩ := H.focus (k := 0) rfl
          refine TF.callp (args := [(.pointer (some ⟨_, 0, none⟩))]) Try.fn13 rfl rfl (wantF_yes rfl rfl rfl rfl) rfl (tbytes_ok _ _ _ _ hF31 ok30) ?_
          rintro e_ w ⟨A31, n31, c31, rfl, hn31⟩
          refine ⟨_, rfl, fun x => Below w.heap.size w x, fun x hx => below_trans (below_trans hB hn31.below) hx, Below.refl _ _, ?_⟩
          replace hB := Below.refl w.heap.size w
          replace H := H.newS hn31
          refine TF.tostrr (RdS.all (H.rd (k := 0) rfl)) rfl rfl (wantF_yes rfl rfl rfl rfl) Try.underlying25 Try.underlying5 Try.underlying9 rfl ?_
          refine TF.ug (v := (.bool _)) rfl rfl (wantF_yes rfl rfl rfl rfl) (pr_sneq rfl rfl) ?_
          refine TF.u (v := (.bool _)) rfl rfl (pr_pickF rfl rfl rfl) ?_
          clear hB
          refine TF.nil (nx_then ?_)
          refine cw_cond _ rfl rfl (fun hq34 => by
              have hp34 := eF (nT hq34)
              exfalso
              first | omega | exact hp34 rfl | exact hp34 (by decide) | (simp at hp34; done) | (simp at hp34; omega)) ?_
          intro hq34
          have hp34 := eT (nF hq34)
          refine cw_skip (nx_block (nx_then ?_))
          -- region 13 law.go:75
          refine cw_region (clf [.U, .U]) [0, 1] rfl (by kernel_rfl) (by decide) ?_
          refine TF.u (v := (.int .i64 _)) rfl rfl (pr_add rfl rfl (IntWalk.i64_in _ (by omega))) ?_
          refine TF.u (v := (.int .i64 _)) rfl rfl (pr_move rfl) ?_
          refine TF.nil (nx_loop (m' := n_script - (i + 1)) (by omega) ?_)
          exact ⟨_, i + 1, _, rfl, (cutS (cutS (cutS (cutS (cutS rfl rfl) rfl) rfl) rfl) rfl), (H.del 0), by omega, ok30⟩
        ·
          have hp26 := dF hq26
          refine cw_exit (ex_then (ex_then (ex_here (nx_then ?_))))
          refine cw_seq ?_
          -- region 14 law.go:80
          refine cw_drawS H Try.wide_ (clf [.U, .P, .U, .U, .U, .R, .U, .U, .U]) [0, 2, 3, 4, 5, 6, 1, 7, 8] (by kernel_rfl) (by kernel_rfl) ?_
          clear H
          intro w hbr H hB
          skip
          refine TF.u (v := (.pointer (some ⟨_, 0, none⟩))) rfl rfl (pr_move rfl) ?_
          refine TF.u (v := (.pointer (some ⟨_, 0, none⟩))) rfl rfl (pr_move rfl) ?_
          refine TF.u (v := (.pointer (some _))) rfl rfl (pr_nil rfl) ?_
          refine TF.u (v := (.pointer (some ⟨_, 0, none⟩))) rfl rfl (pr_field (o' := 0) Try.underlying49 rfl (Try.ty9.s) (by decide) rfl rfl) ?_
          refine TF.loadr (v := (T _)) rfl rfl (wantF_none rfl) Try.underlying9 rfl rfl ((H.blk (k := 1) rfl).atB rfl) ?_
          refine TF.u (v := (.int .i64 _)) rfl rfl (pr_slen rfl Try.underlying9 rfl) ?_
          obtain ⟨F36, hF36, hU36⟩ := H.focus (k := 0) rfl
          refine TF.callp (args := [(.pointer (some ⟨_, 0, none⟩))]) Try.fn17 rfl rfl (wantF_none rfl) rfl (tlen_ok _ _ _ _ hF36 oks) ?_
          rintro e_ w ⟨rfl, hb35⟩
          refine ⟨_, rfl, fun x => Below w.heap.size w x, fun x hx => below_trans (below_trans hB hb35) hx, Below.refl _ _, ?_⟩
          replace hB := Below.refl w.heap.size w
          replace H := H.below hb35
          refine TF.u (v := (.bool _)) rfl rfl (pr_eql rfl rfl) ?_
          refine TF.u (v := (.bool _)) rfl rfl (pr_assign rfl) ?_
          clear hB
          refine TF.nil (nx_then ?_)
          refine cw_ret (fin1 (v := (.bool _)) Try.results7 rfl rfl ?_)
          exact ⟨by simp, H.base⟩
end Go.Proofs.Ytdanpfiombbdoaa
namespace Go.Proofs.Ytdanpfiombbdoaa
open Go.ChangeShapes Go.WideShapes Go.ChangeAt Go.RowKit
open Go.ChangeMaps (open_string shut_string)
theorem tapePlays_own : ownKnob Try.prog.godebug = none := by kernel_rfl
theorem tapePlays_laid : laidOutB Try.prog = true := by kernel_rfl
theorem tapePlays_elem2 {H : Type} {enc : TypeId × Value → H} {w : World} {base : Nat} {spare : Nat → Bool} {held : Bool} {fuel : Nat} {cs : List Value} {y : DataW H × List MemPlace} (h : DataW.trod enc Try.prog w base spare held fuel 47 cs = some y) : ∃ a, cs = (fun o : Int × Int × List UInt8 => [(.int .i64 o.1), (.int .i64 o.2.1), (Go.Q.T o.2.2)]) a ∧ (fun o : Int × Int × List UInt8 => -9223372036854775808 ≤ o.1 ∧ o.1 ≤ 9223372036854775807 ∧ -9223372036854775808 ≤ o.2.1 ∧ o.2.1 ≤ 9223372036854775807 ∧ o.2.2.length ≤ 9223372036854775807) a := by
  have hl : cs.length = 3 := (Go.Q.open_len Try.underlying47 h).trans (by kernel_rfl)
  obtain ⟨x0, x1, x2, rfl⟩ := Go.Q.len3 hl
  obtain ⟨m0, y0, hy0⟩ := Go.Q.open_fld (i := 0) Try.underlying47 h rfl
  replace hy0 : DataW.trod enc Try.prog w base spare held m0 3 (([x0, x1, x2].drop 0).take (Try.prog.cellsOf 3)) = some y0 := hy0
  rw [show Try.prog.cellsOf 3 = 1 by kernel_rfl] at hy0
  obtain ⟨m1, y1, hy1⟩ := Go.Q.open_fld (i := 1) Try.underlying47 h rfl
  replace hy1 : DataW.trod enc Try.prog w base spare held m1 3 (([x0, x1, x2].drop 1).take (Try.prog.cellsOf 3)) = some y1 := hy1
  rw [show Try.prog.cellsOf 3 = 1 by kernel_rfl] at hy1
  obtain ⟨m2, y2, hy2⟩ := Go.Q.open_fld (i := 2) Try.underlying47 h rfl
  replace hy2 : DataW.trod enc Try.prog w base spare held m2 9 (([x0, x1, x2].drop 2).take (Try.prog.cellsOf 9)) = some y2 := hy2
  rw [show Try.prog.cellsOf 9 = 1 by kernel_rfl] at hy2
  obtain ⟨a0, he0, hw0⟩ := Go.Q.open_num Try.underlying3 hy0
  obtain rfl : x0 = _ := by simpa using he0
  have z0 := bounds_i64 hw0
  obtain ⟨a1, he1, hw1⟩ := Go.Q.open_num Try.underlying3 hy1
  obtain rfl : x1 = _ := by simpa using he1
  have z1 := bounds_i64 hw1
  obtain ⟨a2, he2, hw2⟩ := Go.Q.open_str Try.underlying9 hy2
  obtain rfl : x2 = _ := by simpa using he2
  exact ⟨(a0, a1, a2), rfl, z0.1, z0.2, z1.1, z1.2, hw2⟩
set_option maxRecDepth 100000 in
theorem tapePlays_lifted (os : Os) (started : os.Started) (H : Type) (enc : TypeId × Value → H) :
    ReturnsInHanded {} Try.checked os 7 .any (Rows.tapePlaysSpec.pre6 enc Try.prog Try.f7 Rows.tapePlaysRow.domain false) (Rows.tapePlaysSpec.post enc Try.prog Try.f7 false true false false) := by
  refine returnsInHanded_of_change_sized (C := Try.checked) tapePlays_own started (by kernel_rfl) Try.func7
    (ChangeSpec.witness6 (enc := enc) (C := Try.checked) false ⟨#[], #[.int .i64 0, .bool false, .slice none 0 0], []⟩ 8 (by kernel_rfl) (by kernel_rfl) (by kernel_rfl) (by kernel_rfl)) ?_
  intro W base args ds gs before hval0 hW hcnd hsz0 _
  have hval : ∀ (j : Nat) t v, Try.f7.params[j]? = some t → args[j]? = some v → Value.okWide Try.prog W .any base t v := hval0
  have hW' := hW
  obtain ⟨p, q, hA0, hV, rfl, hfz, hnd⟩ := hW
  have hA : DataW.TrodAll enc Try.prog W 0 (fun _ => true) true Try.f7.params.toList args.toList ds p := hA0
  have hsz : (DataW.weightsEach Try.prog (Try.f7.params.toList ++ Rows.tapePlaysSpec.plain.varTypes Try.prog) (ds ++ gs)).all (· ≤ reachBytes) = true := hsz0
  rw [Try.params7] at hA hval hsz
  obtain ⟨v0, vs0, d0, ds0, p0, q0, hargs, rfl, rfl, h0, r0⟩ := trodAll_cons hA
  obtain ⟨v1, vs1, d1, ds1, p1, q1, rfl, rfl, rfl, h1, r1⟩ := trodAll_cons r0
  obtain ⟨v2, vs2, d2, ds2, p2, q2, rfl, rfl, rfl, h2, r2⟩ := trodAll_cons r1
  obtain ⟨rfl, rfl, rfl⟩ := trodAll_nil r2
  obtain rfl : args = #[v0, v1, v2] := by cases args; simp_all
  obtain ⟨rfl, rfl⟩ := trodVars_none hV
  obtain ⟨a0, rfl, rfl, rfl, m0⟩ := open_int Try.underlying3 (hval 0 3 v0 rfl rfl) h0
  have z0 := bounds_i64 m0
  obtain ⟨a1, rfl, rfl, rfl⟩ := open_bool Try.underlying4 (hval 1 4 v1 rfl rfl) h1
  have k2 := h2
  have lt2 : ∀ x ∈ p2, x.block < W.heap.size := by obtain ⟨m, hm⟩ := k2; exact DataW.trod_lt m _ _ _ hm
  obtain ⟨fu2, hf2⟩ := h2
  obtain ⟨A2, n2, c2, rfl⟩ := okWide_slice Try.underlying38 (hval 2 38 v2 rfl rfl)
  obtain ⟨A2', n2', c2', l2, he2, hr2, hl2, ho2⟩ := Go.Q.open_slice (sz := 3) (fun o : Int × Int × List UInt8 => [(.int .i64 o.1), (.int .i64 o.2.1), (Go.Q.T o.2.2)]) (fun o : Int × Int × List UInt8 => -9223372036854775808 ≤ o.1 ∧ o.1 ≤ 9223372036854775807 ∧ -9223372036854775808 ≤ o.2.1 ∧ o.2.1 ≤ 9223372036854775807 ∧ o.2.2.length ≤ 9223372036854775807) Try.underlying38 (by kernel_rfl) (fun _ _ _ h => tapePlays_elem2 h) (fun _ => rfl) hf2
  obtain ⟨rfl, rfl, rfl⟩ : A2 = A2' ∧ n2 = n2' ∧ c2 = c2' := by simpa [Value.cells] using he2
  clear hA0 hval0
  refine (TapePlays_ok a0 a1 A2 n2 c2 l2 W z0.1 z0.2 hr2 hl2 ho2).mono fun e W' ⟨he, bel⟩ => ?_
  subst he
  exact ⟨_, rfl, _, _, _, [], _, [], hW', trodAll_mk1 (shut_bool Try.underlying4 _), (trodAll_cons_mk (shut_int Try.underlying3 m0) (trodAll_cons_mk (shut_bool Try.underlying4 _) (trodAll_cons_mk (Below.trod tapePlays_laid (by kernel_rfl) (of_decide_eq_true (by kernel_rfl)) k2 bel lt2) trodAll_mk0))), rfl, bel.frame _, fun h => by cases h⟩
theorem tapePlays_holds : Rows.TapePlaysSaid :=
  OpenClaim.holds_of_wide 7 Try.f7 rfl rfl rfl rfl rfl rfl rfl ⟨rfl, rfl, rfl, rfl, rfl⟩ rfl rfl rfl rfl rfl (by kernel_rfl) Try.func7 (by kernel_rfl)
    (of_decide_eq_true (by kernel_rfl)) (by unfold Func.isWrapper; first | (rw [if_pos (by decide +kernel)]; kernel_rfl) | (rw [if_neg (by decide +kernel)]; exact ⟨rfl, rfl⟩))
    (fun os started H enc _ => tapePlays_lifted os started H enc)
end Go.Proofs.Ytdanpfiombbdoaa
