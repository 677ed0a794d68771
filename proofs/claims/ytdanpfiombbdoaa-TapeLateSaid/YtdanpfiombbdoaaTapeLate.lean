/- The given statement Rows.TapeLateSaid: quayside/quaysidelaw08.TapeLate returns true for all arguments, and leaves its arguments as they were. No further condition. -/
import Derived.Test.YtdanpfiombbdoaaFns1
import Derived.Test.YtdanpfiombbdoaaRows
import Derived.Test.YtdanpfiombbdoaaArgs
import Derived.WalkKit
import Derived.ProofKit
import Derived.OpenShut
import Derived.ShutString
import Derived.ChangeOld
import Derived.Below
import Derived.SizedLaws
import Derived.JoinedCond
set_option linter.unusedSimpArgs false
set_option linter.unusedVariables false
set_option maxRecDepth 10000
namespace Go.Proofs.Ytdanpfiombbdoaa
open Go.Q Go.RowKit Go.Proofs
theorem Try.fn10 : Fnc Try.prog 10 Try.f10 := ⟨Try.func10, by kernel_rfl, by kernel_rfl⟩
theorem Try.fn20 : Fnc Try.prog 20 Try.f20 := ⟨Try.func20, by kernel_rfl, by kernel_rfl⟩
theorem Try.fn21 : Fnc Try.prog 21 Try.f21 := ⟨Try.func21, by kernel_rfl, by kernel_rfl⟩
theorem Try.fn22 : Fnc Try.prog 22 Try.f22 := ⟨Try.func22, by kernel_rfl, by kernel_rfl⟩
theorem TapeLate_ok (room : Int) (A_script : Option Addr) (n_script c_script : Nat) (script : List (Int × Int × List UInt8)) (w0 : World) (hroom1 : -9223372036854775808 ≤ room) (hroom2 : room ≤ 9223372036854775807) (h_script : RdS w0 3 A_script n_script c_script (script.flatMap (fun o : Int × Int × List UInt8 => [(.int .i64 o.1), (.int .i64 o.2.1), (T o.2.2)]))) (hl_script : script.length = n_script) (hok_script : ∀ o ∈ script, -9223372036854775808 ≤ o.1 ∧ o.1 ≤ 9223372036854775807 ∧ -9223372036854775808 ≤ o.2.1 ∧ o.2.1 ≤ 9223372036854775807 ∧ o.2.2.length ≤ 9223372036854775807) :
    Calls Try.prog 8 #[.int .i64 room, .slice A_script n_script c_script] w0 fun e w => e = .returned (.bool true) ∧ Below w0.heap.size w0 w := by
  refine enter (args := [.int .i64 room, .slice A_script n_script c_script]) Try.func8 rfl Try.ntmps8 rfl ?_
  have H := Sat.start w0
  refine cw_seq ?_
  -- region 0 law.go:84
  refine cw_region (clf [.U]) [0] rfl (by kernel_rfl) (by decide) ?_
  refine TF.u (v := (.bool _)) rfl rfl (pr_assign rfl) ?_
  refine TF.nil (nx_then ?_)
  refine cw_seq ?_
  refine cw_seq ?_
  -- region 1 law.go:85
  refine cw_region (clf [.X, .U, .U, .U, .X, .U, .U]) [0, 1, 2, 3, 4, 5, 6] rfl (by kernel_rfl) (by decide) ?_
  refine TF.call (args := []) Try.fn10 rfl rfl (wantF_none rfl) rfl (awake_ok _) ?_
  rintro e_ w ⟨rfl, hb1⟩
  refine ⟨_, rfl, ?_⟩
  replace H := H.below hb1
  refine TF.u (v := (.bool _)) rfl rfl (pr_not rfl) ?_
  refine TF.u (v := (.bool _)) rfl rfl (pr_move rfl) ?_
  refine TF.ug (v := (.slice _ _ _)) rfl rfl (wantF_yes rfl rfl rfl rfl) (pr_move rfl) ?_
  refine TF.call (args := [(.slice _ _ _)]) Try.fn20 rfl rfl (wantF_yes rfl rfl rfl rfl) rfl (few_ok _ _ _ script _ (h_script.below H.base) hl_script hok_script) ?_
  rintro e_ w ⟨rfl, hb2⟩
  refine ⟨_, rfl, ?_⟩
  replace H := H.below hb2
  refine TF.ug (v := (.bool _)) rfl rfl (wantF_yes rfl rfl rfl rfl) (pr_not rfl) ?_
  refine TF.u (v := (.bool _)) rfl rfl (pr_pickF rfl rfl rfl) ?_
  refine TF.nil (nx_then ?_)
  refine cw_cond _ rfl rfl (fun hq4 => ?_) (fun hq4 => ?_)
  ·
    have hp4 := (nT hq4)
    refine cw_seq ?_
    -- region 2 law.go:86
    refine cw_region (clf [.X, .U]) [0, 1] rfl (by kernel_rfl) (by decide) ?_
    refine TF.call (args := []) Try.fn10 rfl rfl (wantF_none rfl) rfl (awake_ok _) ?_
    rintro e_ w ⟨rfl, hb5⟩
    refine ⟨_, rfl, ?_⟩
    replace H := H.below hb5
    refine TF.u (v := (.bool _)) rfl rfl (pr_assign rfl) ?_
    refine TF.nil (nx_then ?_)
    refine cw_ret (rt_then (fin1 (v := (.bool _)) Try.results8 rfl rfl ?_))
    exact ⟨by simp, H.base⟩
  ·
    have hp4 := (nF hq4)
    refine cw_skip (nx_then ?_)
    refine cw_seq ?_
    -- region 3 law.go:88
    refine cw_region (clf [.U, .X, .U, .X, .U, .U]) [0, 1, 2, 3, 4, 5] rfl (by kernel_rfl) (by decide) ?_
    refine TF.u (v := (.int .i64 _)) rfl rfl (pr_move rfl) ?_
    refine TF.call (args := [(.int .i64 _)]) Try.fn11 rfl rfl (wantF_none rfl) rfl (tnew_ok room _ (by omega) (by omega)) ?_
    rintro e_ w ⟨tb6, rfl, hn6, ok6⟩
    refine ⟨_, rfl, ?_⟩
    replace H := H.newC hn6
    replace H : Sat _ _ _ [_] := H
    refine TF.u (v := (.int .i64 _)) rfl rfl (pr_move rfl) ?_
    refine TF.call (args := [(.int .i64 _)]) Try.fn21 rfl rfl (wantF_none rfl) rfl (rtnew_ok room _ (by omega) (by omega)) ?_
    rintro e_ w ⟨tb7, rfl, hn7, ok7⟩
    refine ⟨_, rfl, ?_⟩
    replace H := H.newC hn7
    replace H : Sat _ _ _ [_, _] := H
    refine TF.u (v := (.pointer (some ⟨_, 0, none⟩))) rfl rfl (pr_assign rfl) ?_
    refine TF.u (v := (.pointer (some ⟨_, 0, none⟩))) rfl rfl (pr_assign rfl) ?_
    refine TF.nil (nx_then ?_)
    refine cw_seq ?_
    refine cw_seq ?_
    -- region 4 law.go:89
    refine cw_region (clf [.U, .U]) [0, 1] rfl (by kernel_rfl) (by decide) ?_
    refine TF.u (v := (.pointer (some ⟨_, 0, none⟩))) rfl rfl (pr_move rfl) ?_
    refine TF.u (v := (.bool _)) rfl rfl (pr_peql Try.underlying23 rfl rfl) ?_
    refine TF.nil (nx_then ?_)
    refine cw_condF (t := _) rfl rfl rfl ?_
    refine cw_skip (nx_then ?_)
    refine cw_seq ?_
    refine cw_seq ?_
    -- region 6 law.go:92
    refine cw_region (clf [.U, .U, .U]) [0, 1, 2] rfl (by kernel_rfl) (by decide) ?_
    obtain ⟨hfl, hfew⟩ := fewS_len (by assumption)
    refine TF.u (v := (.slice _ _ _)) rfl rfl (pr_move rfl) ?_
    refine TF.u (v := (.int .i64 _)) rfl rfl (pr_len rfl Try.underlying38 rfl) ?_
    refine TF.u (v := (.int .i64 _)) rfl rfl (pr_move rfl) ?_
    refine TF.nil (nx_then ?_)
    refine cw_block ?_
    refine cw_loop (fun m f w => ∃ (g_ : Nat → Value) (i : Nat) (s : TS), m = n_script - i ∧ f = (upd (upd (upd (upd (upd g_ 1 (.slice A_script n_script c_script)) 5 (.pointer (some ⟨tb6, 0, none⟩))) 6 (.pointer (some ⟨tb7, 0, none⟩))) 23 (.int .i64 (n_script : Int))) 24 (.int .i64 (i : Int))) ∧ Sat [] w0 w [cTape 5 44 tb6 s, cRTape 49 tb7 s] ∧ (i ≤ n_script) ∧ (TOk s)) (n_script - 0) ?_ ?_
    ·
      exact ⟨_, 0, _, rfl, (cutS (cutS (cutS (cutS (cutS rfl rfl) rfl) rfl) rfl) rfl), (H.two (i := 1) (j := 0) rfl rfl), Nat.zero_le _, ok6⟩
    ·
      clear H
      rintro m_ f_ w ⟨g_, i, s, rfl, rfl, H, hi, oks⟩
      have okr := oks
      refine cw_seq ?_
      -- region 7 law.go:92
      refine cw_region (clf [.U]) [0] rfl (by kernel_rfl) (by decide) ?_
      refine TF.u (v := (.bool _)) rfl rfl (pr_lss rfl rfl) ?_
      refine TF.nil (nx_then ?_)
      refine cw_seq ?_
      refine cw_cond _ rfl rfl (fun hq9 => ?_) (fun hq9 => ?_)
      ·
        have hp9 := dT hq9
        refine cw_skip (nx_then ?_)
        refine cw_seq ?_
        refine cw_block ?_
        refine cw_seq ?_
        -- region 8 law.go:92
        refine cw_region (clf [.U, .U]) [0, 1] rfl (by kernel_rfl) (by decide) ?_
        skip
        refine TF.u (v := (.int .i64 _)) rfl rfl (pr_move rfl) ?_
        refine TF.u (v := (.int .i64 _)) rfl rfl (pr_assign rfl) ?_
        refine TF.nil (nx_then ?_)
        refine cw_seq ?_
        -- region 9 law.go:93
        refine cw_region (clf [.U, .U, .U, .U, .U, .X, .X, .U]) [0, 1, 2, 3, 4, 5, 6, 7] rfl (by kernel_rfl) (by decide) ?_
        refine TF.u (v := (.pointer (some ⟨_, 0, none⟩))) rfl rfl (pr_move rfl) ?_
        refine TF.u (v := (.pointer (some ⟨_, 0, none⟩))) rfl rfl (pr_move rfl) ?_
        refine TF.u (v := (.slice _ _ _)) rfl rfl (pr_move rfl) ?_
        refine TF.u (v := (.int .i64 _)) rfl rfl (pr_move rfl) ?_
        obtain ⟨o12, ho12⟩ : ∃ o, script[i]? = some o := ⟨_, List.getElem?_eq_getElem (by omega)⟩
        have hko12 := hok_script o12 (List.mem_of_getElem? ho12)
        obtain ⟨hko12_0, hko12_1, hko12_2, hko12_3, hko12_4⟩ := hko12
        have hel := hfew o12 (List.mem_of_getElem? ho12)
        refine TF.idx (h_script.below H.base) rfl rfl (wantF_none rfl) Try.underlying38 (Try.ty47.s) rfl rfl (by omega) (by omega) ?_
        intro p10 hc11
        replace hc11 : ∀ j u, j < 3 → ((fun o : Int × Int × List UInt8 => [(.int .i64 o.1), (.int .i64 o.2.1), (T o.2.2)]) o12)[j]? = some u → w.cell? (p10.add j) = some u := fun j u hj hu => hc11 j u hj ((flat_at (fun o : Int × Int × List UInt8 => [(.int .i64 o.1), (.int .i64 o.2.1), (T o.2.2)]) 3 _ (fun _ => rfl) ho12 hj).trans hu)
        refine TF.loadN (cs := [(.int .i64 o12.1), (.int .i64 o12.2.1), (T o12.2.2)]) rfl rfl (wantF_none rfl) (Try.ty47.s) rfl rfl rfl (fun j u hj => hc11 j u (List.getElem?_eq_some_iff.1 hj).1 hj) ?_
        replace H := (H.two (i := 0) (j := 0) rfl rfl).sep
        obtain ⟨F13, hF13, hU13⟩ := H.focus (k := 0) rfl
        refine TF.call (args := [(.pointer (some ⟨_, 0, none⟩)), (.pointer (some ⟨_, 0, none⟩)), (.agg ⟨[(.int .i64 o12.1), (.int .i64 o12.2.1), (T o12.2.2)]⟩)]) Try.fn22 rfl rfl (wantF_none rfl) rfl (does_ok _ _ _ _ _ _ _ _ hF13 oks (by omega) (by omega) (by omega) (by omega) (by omega)) ?_
        rintro e_ w ⟨rfl, hu13, ok13⟩
        refine ⟨_, rfl, ?_⟩
        replace H := (hU13 hu13).unsep
        replace H : Sat _ _ _ [_, _] := H
        refine TF.u (v := (.bool _)) rfl rfl (pr_not rfl) ?_
        refine TF.nil (nx_then ?_)
        refine cw_condF (t := _) rfl rfl rfl ?_
        refine cw_skip (nx_block (nx_then ?_))
        -- region 11 law.go:92
        refine cw_region (clf [.U, .U]) [0, 1] rfl (by kernel_rfl) (by decide) ?_
        refine TF.u (v := (.int .i64 _)) rfl rfl (pr_add rfl rfl (IntWalk.i64_in _ (by omega))) ?_
        refine TF.u (v := (.int .i64 _)) rfl rfl (pr_move rfl) ?_
        refine TF.nil (nx_loop (m' := n_script - (i + 1)) (by omega) ?_)
        exact ⟨_, i + 1, _, rfl, (cutS (cutS (cutS (cutS (cutS rfl rfl) rfl) rfl) rfl) rfl), H, by omega, ok13⟩
      ·
        have hp9 := dF hq9
        refine cw_exit (ex_then (ex_then (ex_here (nx_then ?_))))
        refine cw_seq ?_
        -- region 12 law.go:97
        refine cw_drawS H Try.wide_ (clf [.U, .P, .R, .U, .U, .U, .R, .U, .U]) [0, 3, 4, 5, 6, 1, 2, 7, 8] (by kernel_rfl) (by kernel_rfl) ?_
        clear H
        intro w hbr H hB
        skip
        refine TF.u (v := (.pointer (some ⟨_, 0, none⟩))) rfl rfl (pr_move rfl) ?_
        refine TF.u (v := (.pointer (some ⟨_, 0, none⟩))) rfl rfl (pr_move rfl) ?_
        refine TF.u (v := (.pointer (some _))) rfl rfl (pr_nil rfl) ?_
        refine TF.u (v := (.pointer (some ⟨_, 0, none⟩))) rfl rfl (pr_field (o' := 0) Try.underlying49 rfl (Try.ty9.s) (by decide) rfl rfl) ?_
        refine TF.loadr (v := (T _)) rfl rfl (wantF_none rfl) Try.underlying9 rfl rfl ((H.blk (k := 1) rfl).atB rfl) ?_
        obtain ⟨F14, hF14, hU14⟩ := H.focus (k := 0) rfl
        refine TF.callp (args := [(.pointer (some ⟨_, 0, none⟩))]) Try.fn13 rfl rfl (wantF_none rfl) rfl (tbytes_ok _ _ _ _ hF14 oks) ?_
        rintro e_ w ⟨A14, n14, c14, rfl, hn14⟩
        refine ⟨_, rfl, fun x => Below w.heap.size w x, fun x hx => below_trans (below_trans hB hn14.below) hx, Below.refl _ _, ?_⟩
        replace hB := Below.refl w.heap.size w
        replace H := H.newS hn14
        refine TF.tostrr (RdS.all (H.rd (k := 0) rfl)) rfl rfl (wantF_none rfl) Try.underlying25 Try.underlying5 Try.underlying9 rfl ?_
        refine TF.u (v := (.bool _)) rfl rfl (pr_seql rfl rfl) ?_
        refine TF.u (v := (.bool _)) rfl rfl (pr_assign rfl) ?_
        clear hB
        refine TF.nil (nx_then ?_)
        refine cw_ret (fin1 (v := (.bool _)) Try.results8 rfl rfl ?_)
        exact ⟨by simp, H.base⟩
end Go.Proofs.Ytdanpfiombbdoaa
namespace Go.Proofs.Ytdanpfiombbdoaa
open Go.ChangeShapes Go.WideShapes Go.ChangeAt Go.RowKit
open Go.ChangeMaps (open_string shut_string)
theorem tapeLate_own : ownKnob Try.prog.godebug = none := by kernel_rfl
theorem tapeLate_laid : laidOutB Try.prog = true := by kernel_rfl
theorem tapeLate_elem1 {H : Type} {enc : TypeId × Value → H} {w : World} {base : Nat} {spare : Nat → Bool} {held : Bool} {fuel : Nat} {cs : List Value} {y : DataW H × List MemPlace} (h : DataW.trod enc Try.prog w base spare held fuel 47 cs = some y) : ∃ a, cs = (fun o : Int × Int × List UInt8 => [(.int .i64 o.1), (.int .i64 o.2.1), (Go.Q.T o.2.2)]) a ∧ (fun o : Int × Int × List UInt8 => -9223372036854775808 ≤ o.1 ∧ o.1 ≤ 9223372036854775807 ∧ -9223372036854775808 ≤ o.2.1 ∧ o.2.1 ≤ 9223372036854775807 ∧ o.2.2.length ≤ 9223372036854775807) a := by
  have hl : cs.length = 3 := (Go.Q.open_len Try.underlying47 h).trans (by kernel_rfl)
  obtain ⟨x0, x1, x2, rfl⟩ := Go.Q.len3 hl
  obtain ⟨m0, y0, hy0⟩ := Go.Q.open_fld (i := 0) Try.underlying47 h rfl
  replace hy0 : DataW.trod enc Try.prog w base spare held m0 3 (([x0, x1, x2].drop 0).take (Try.prog.cellsOf 3)) = some y0 := hy0
  rw [show Try.prog.cellsOf 3 = 1 by kernel_rfl] at hy0
  obtain ⟨m1, y1, hy1⟩ := Go.Q.open_fld (i := 1) Try.underlying47 h rfl
  replace hy1 : DataW.trod enc Try.prog w base spare held m1 3 (([x0, x1, x2].drop 1).take (Try.prog.cellsOf 3)) = some y1 := hy1
  rw [show Try.prog.cellsOf 3 = 1 by kernel_rfl] at hy1
  obtain ⟨m2, y2, hy2⟩ := Go.Q.open_fld (i := 2) Try.underlying47 h rfl
  replace hy2 : DataW.trod enc Try.prog w base spare held m2 9 (([x0, x1, x2].drop 2).take (Try.prog.cellsOf 9)) = some y2 := hy2
  rw [show Try.prog.cellsOf 9 = 1 by kernel_rfl] at hy2
  obtain ⟨a0, he0, hw0⟩ := Go.Q.open_num Try.underlying3 hy0
  obtain rfl : x0 = _ := by simpa using he0
  have z0 := bounds_i64 hw0
  obtain ⟨a1, he1, hw1⟩ := Go.Q.open_num Try.underlying3 hy1
  obtain rfl : x1 = _ := by simpa using he1
  have z1 := bounds_i64 hw1
  obtain ⟨a2, he2, hw2⟩ := Go.Q.open_str Try.underlying9 hy2
  obtain rfl : x2 = _ := by simpa using he2
  exact ⟨(a0, a1, a2), rfl, z0.1, z0.2, z1.1, z1.2, hw2⟩
set_option maxRecDepth 100000 in
theorem tapeLate_lifted (os : Os) (started : os.Started) (H : Type) (enc : TypeId × Value → H) :
    ReturnsInHanded {} Try.checked os 8 .any (Rows.tapeLateSpec.pre6 enc Try.prog Try.f8 Rows.tapeLateRow.domain false) (Rows.tapeLateSpec.post enc Try.prog Try.f8 false true false false) := by
  refine returnsInHanded_of_change_sized (C := Try.checked) tapeLate_own started (by kernel_rfl) Try.func8
    (ChangeSpec.witness6 (enc := enc) (C := Try.checked) false ⟨#[], #[.int .i64 0, .slice none 0 0], []⟩ 8 (by kernel_rfl) (by kernel_rfl) (by kernel_rfl) (by kernel_rfl)) ?_
  intro W base args ds gs before hval0 hW hcnd hsz0 _
  have hval : ∀ (j : Nat) t v, Try.f8.params[j]? = some t → args[j]? = some v → Value.okWide Try.prog W .any base t v := hval0
  have hW' := hW
  obtain ⟨p, q, hA0, hV, rfl, hfz, hnd⟩ := hW
  have hA : DataW.TrodAll enc Try.prog W 0 (fun _ => true) true Try.f8.params.toList args.toList ds p := hA0
  have hsz : (DataW.weightsEach Try.prog (Try.f8.params.toList ++ Rows.tapeLateSpec.plain.varTypes Try.prog) (ds ++ gs)).all (· ≤ reachBytes) = true := hsz0
  rw [Try.params8] at hA hval hsz
  obtain ⟨v0, vs0, d0, ds0, p0, q0, hargs, rfl, rfl, h0, r0⟩ := trodAll_cons hA
  obtain ⟨v1, vs1, d1, ds1, p1, q1, rfl, rfl, rfl, h1, r1⟩ := trodAll_cons r0
  obtain ⟨rfl, rfl, rfl⟩ := trodAll_nil r1
  obtain rfl : args = #[v0, v1] := by cases args; simp_all
  obtain ⟨rfl, rfl⟩ := trodVars_none hV
  obtain ⟨a0, rfl, rfl, rfl, m0⟩ := open_int Try.underlying3 (hval 0 3 v0 rfl rfl) h0
  have z0 := bounds_i64 m0
  have k1 := h1
  have lt1 : ∀ x ∈ p1, x.block < W.heap.size := by obtain ⟨m, hm⟩ := k1; exact DataW.trod_lt m _ _ _ hm
  obtain ⟨fu1, hf1⟩ := h1
  obtain ⟨A1, n1, c1, rfl⟩ := okWide_slice Try.underlying38 (hval 1 38 v1 rfl rfl)
  obtain ⟨A1', n1', c1', l1, he1, hr1, hl1, ho1⟩ := Go.Q.open_slice (sz := 3) (fun o : Int × Int × List UInt8 => [(.int .i64 o.1), (.int .i64 o.2.1), (Go.Q.T o.2.2)]) (fun o : Int × Int × List UInt8 => -9223372036854775808 ≤ o.1 ∧ o.1 ≤ 9223372036854775807 ∧ -9223372036854775808 ≤ o.2.1 ∧ o.2.1 ≤ 9223372036854775807 ∧ o.2.2.length ≤ 9223372036854775807) Try.underlying38 (by kernel_rfl) (fun _ _ _ h => tapeLate_elem1 h) (fun _ => rfl) hf1
  obtain ⟨rfl, rfl, rfl⟩ : A1 = A1' ∧ n1 = n1' ∧ c1 = c1' := by simpa [Value.cells] using he1
  clear hA0 hval0
  refine (TapeLate_ok a0 A1 n1 c1 l1 W z0.1 z0.2 hr1 hl1 ho1).mono fun e W' ⟨he, bel⟩ => ?_
  subst he
  exact ⟨_, rfl, _, _, _, [], _, [], hW', trodAll_mk1 (shut_bool Try.underlying4 _), (trodAll_cons_mk (shut_int Try.underlying3 m0) (trodAll_cons_mk (Below.trod tapeLate_laid (by kernel_rfl) (of_decide_eq_true (by kernel_rfl)) k1 bel lt1) trodAll_mk0)), rfl, bel.frame _, fun h => by cases h⟩
theorem tapeLate_holds : Rows.TapeLateSaid :=
  OpenClaim.holds_of_wide 8 Try.f8 rfl rfl rfl rfl rfl rfl rfl ⟨rfl, rfl, rfl, rfl, rfl⟩ rfl rfl rfl rfl rfl (by kernel_rfl) Try.func8 (by kernel_rfl)
    (of_decide_eq_true (by kernel_rfl)) (by unfold Func.isWrapper; first | (rw [if_pos (by decide +kernel)]; kernel_rfl) | (rw [if_neg (by decide +kernel)]; exact ⟨rfl, rfl⟩))
    (fun os started H enc _ => tapeLate_lifted os started H enc)
end Go.Proofs.Ytdanpfiombbdoaa
