/- The given statement Rows.TapeNilSaid: quayside/quaysidelaw08.TapeNil returns true for all arguments, and leaves its arguments as they were. No further condition. -/
import Derived.Test.YtdanpfiombbdoaaFns1
import Derived.Test.YtdanpfiombbdoaaRows
import Derived.Test.YtdanpfiombbdoaaArgs
import Derived.WalkKit
import Derived.ProofKit
import Derived.OpenShut
import Derived.ShutString
import Derived.ChangeOld
import Derived.Below
import Derived.SizedLaws
import Derived.JoinedCond
set_option linter.unusedSimpArgs false
set_option linter.unusedVariables false
set_option maxRecDepth 10000
namespace Go.Proofs.Ytdanpfiombbdoaa
open Go.Q Go.RowKit Go.Proofs
theorem Try.fn10 : Fnc Try.prog 10 Try.f10 := ⟨Try.func10, by kernel_rfl, by kernel_rfl⟩
theorem Try.fn14 : Fnc Try.prog 14 Try.f14 := ⟨Try.func14, by kernel_rfl, by kernel_rfl⟩
theorem Try.fn15 : Fnc Try.prog 15 Try.f15 := ⟨Try.func15, by kernel_rfl, by kernel_rfl⟩
theorem Try.fn16 : Fnc Try.prog 16 Try.f16 := ⟨Try.func16, by kernel_rfl, by kernel_rfl⟩
theorem Try.fn18 : Fnc Try.prog 18 Try.f18 := ⟨Try.func18, by kernel_rfl, by kernel_rfl⟩
theorem Try.fn19 : Fnc Try.prog 19 Try.f19 := ⟨Try.func19, by kernel_rfl, by kernel_rfl⟩
theorem Try.fn23 : Fnc Try.prog 23 Try.f23 := ⟨Try.func23, by kernel_rfl, by kernel_rfl⟩
theorem TapeNil_ok (oKind : Int) (oN : Int) (oB : List UInt8) (w0 : World) (hoKind1 : -9223372036854775808 ≤ oKind) (hoKind2 : oKind ≤ 9223372036854775807) (hoN1 : -9223372036854775808 ≤ oN) (hoN2 : oN ≤ 9223372036854775807) (hoB : oB.length ≤ 9223372036854775807) :
    Calls Try.prog 9 #[.agg ⟨[.int .i64 oKind, .int .i64 oN, T oB]⟩] w0 fun e w => e = .returned (.bool true) ∧ Below w0.heap.size w0 w := by
  refine enter (args := [.agg ⟨[.int .i64 oKind, .int .i64 oN, T oB]⟩]) Try.func9 rfl Try.ntmps9 rfl ?_
  have H := Sat.start w0
  refine cw_seq ?_
  -- region 0 law.go:198
  refine cw_region (clf [.X, .U]) [0, 1] rfl (by kernel_rfl) (by decide) ?_
  refine TF.box (v := (.agg ⟨[_, _, _]⟩)) H rfl (Cx.xx rfl) (wantF_none rfl) rfl rfl ?_
  clear H
  intro bk1 w hltbk1 hb2 H
  refine TF.u (v := (.bool _)) rfl rfl (pr_assign rfl) ?_
  refine TF.nil (nx_then ?_)
  refine cw_seq ?_
  refine cw_seq ?_
  -- region 1 law.go:199
  refine cw_region (clf [.X, .U]) [0, 1] rfl (by kernel_rfl) (by decide) ?_
  refine TF.call (args := []) Try.fn10 rfl rfl (wantF_none rfl) rfl (awake_ok _) ?_
  rintro e_ w ⟨rfl, hb3⟩
  refine ⟨_, rfl, ?_⟩
  replace H := H.below hb3
  refine TF.u (v := (.bool _)) rfl rfl (pr_not rfl) ?_
  refine TF.nil (nx_then ?_)
  refine cw_condF (t := _) rfl rfl rfl ?_
  refine cw_skip (nx_then ?_)
  refine cw_seq ?_
  -- region 3 law.go:202
  refine cw_region (clf [.U]) [0] rfl (by kernel_rfl) (by decide) ?_
  refine TF.u (v := (.pointer _)) rfl rfl (pr_assign rfl) ?_
  refine TF.nil (nx_then ?_)
  refine cw_seq ?_
  -- region 4 law.go:203
  refine cw_region (clf [.U, .U, .X, .X]) [0, 1, 2, 3] rfl (by kernel_rfl) (by decide) ?_
  refine TF.u (v := (.pointer _)) rfl rfl (pr_move rfl) ?_
  refine TF.u (v := (.pointer (some ⟨_, 1, none⟩))) rfl rfl (pr_field (o' := 1) Try.underlying47 rfl (Try.ty3.s) (by decide) rfl rfl) ?_
  refine TF.load (v := (.int .i64 _)) rfl rfl (wantF_none rfl) Try.underlying3 rfl rfl ((H.blk (k := 0) rfl).at_ rfl) ?_
  refine TF.call (args := [(.pointer _), (.int .i64 _)]) Try.fn14 rfl rfl (wantF_none rfl) rfl (tcrash_nil _ _) ?_
  rintro e_ w ⟨rfl, hb4⟩
  refine ⟨_, rfl, ?_⟩
  replace H := H.below hb4
  refine TF.nil (nx_then ?_)
  refine cw_seq ?_
  refine cw_seq ?_
  -- region 5 law.go:204
  refine cw_region (clf [.U, .U, .X, .X, .X, .U, .U, .U, .X, .U, .U, .U, .U, .U, .X, .X, .U, .U, .U, .U, .U, .X, .X, .U, .U]) [0, 1, 2, 3, 4, 5, 6, 7, 8, 9, 10, 11, 12, 13, 14, 15, 16, 17, 18, 19, 20, 21, 22, 23, 24] rfl (by kernel_rfl) (by decide) ?_
  refine TF.u (v := (.pointer _)) rfl rfl (pr_move rfl) ?_
  refine TF.u (v := (.pointer (some ⟨_, 2, none⟩))) rfl rfl (pr_field (o' := 2) Try.underlying47 rfl (Try.ty9.s) (by decide) rfl rfl) ?_
  refine TF.load (v := (T _)) rfl rfl (wantF_none rfl) Try.underlying9 rfl rfl ((H.blk (k := 0) rfl).at_ rfl) ?_
  refine TF.tobytes H rfl (Cx.xx rfl) (wantF_none rfl) Try.underlying9 Try.underlying25 Try.underlying5 rfl (by unfold maxLen; first | omega | (simp only [List.length_append]; omega)) ?_
  clear H
  intro Aow5 cow5 w hcapow5 hb6 H
  refine TF.call (args := [(.pointer _), (.slice _ _ _)]) Try.fn12 rfl rfl (wantF_none rfl) rfl (tappend_nil _ _ _ _) ?_
  rintro e_ w ⟨rfl, hb7⟩
  refine ⟨_, rfl, ?_⟩
  replace H := H.below hb7
  refine TF.u (v := (.bool _)) rfl rfl (pr_neq rfl rfl) ?_
  refine TF.u (v := (.bool _)) rfl rfl (pr_move rfl) ?_
  refine TF.split (dj := 16) rfl (fun hq9 => by
      have hp9 := dF (nT hq9)
      exfalso
      first | omega | exact hp9 rfl | exact hp9 (by decide) | (simp at hp9; done)) ?_
  intro hq9
  have hp9 := dT (nF hq9)
  refine TF.ug (v := (.pointer _)) rfl rfl (wantF_yes rfl rfl rfl hq9) (pr_move rfl) ?_
  refine TF.call (args := [(.pointer _)]) Try.fn16 rfl rfl (wantF_yes rfl rfl rfl hq9) rfl (tsync_nil _) ?_
  rintro e_ w ⟨rfl, hb10⟩
  refine ⟨_, rfl, ?_⟩
  replace H := H.below hb10
  refine TF.ug (v := (.bool _)) rfl rfl (wantF_yes rfl rfl rfl hq9) (pr_neq rfl rfl) ?_
  refine TF.u (v := (.bool _)) rfl rfl (pr_pickF rfl hq9 rfl) ?_
  refine TF.u (v := (.bool _)) rfl rfl (pr_move rfl) ?_
  refine TF.split (dj := 21) rfl (fun hq12 => by
      have hp12 := dF (nT hq12)
      exfalso
      first | omega | exact hp12 rfl | exact hp12 (by decide) | (simp at hp12; done)) ?_
  intro hq12
  have hp12 := dT (nF hq12)
  refine TF.ug (v := (.pointer _)) rfl rfl (wantF_yes rfl rfl rfl hq12) (pr_move rfl) ?_
  refine TF.ug (v := (.pointer (some ⟨_, 1, none⟩))) rfl rfl (wantF_yes rfl rfl rfl hq12) (pr_field (o' := 1) Try.underlying47 rfl (Try.ty3.s) (by decide) rfl rfl) ?_
  refine TF.load (v := (.int .i64 _)) rfl rfl (wantF_yes rfl rfl rfl hq12) Try.underlying3 rfl rfl ((H.blk (k := 1) rfl).at_ rfl) ?_
  refine TF.call (args := [(.pointer _), (.int .i64 _)]) Try.fn18 rfl rfl (wantF_yes rfl rfl rfl hq12) rfl (tcut_nil _ _) ?_
  rintro e_ w ⟨rfl, hb13⟩
  refine ⟨_, rfl, ?_⟩
  replace H := H.below hb13
  refine TF.ug (v := (.bool _)) rfl rfl (wantF_yes rfl rfl rfl hq12) (pr_neq rfl rfl) ?_
  refine TF.u (v := (.bool _)) rfl rfl (pr_pickF rfl hq12 rfl) ?_
  refine TF.u (v := (.bool _)) rfl rfl (pr_move rfl) ?_
  refine TF.split (dj := 28) rfl (fun hq15 => by
      have hp15 := dF (nT hq15)
      exfalso
      first | omega | exact hp15 rfl | exact hp15 (by decide) | (simp at hp15; done)) ?_
  intro hq15
  have hp15 := dT (nF hq15)
  refine TF.ug (v := (.pointer _)) rfl rfl (wantF_yes rfl rfl rfl hq15) (pr_move rfl) ?_
  refine TF.ug (v := (.pointer (some ⟨_, 1, none⟩))) rfl rfl (wantF_yes rfl rfl rfl hq15) (pr_field (o' := 1) Try.underlying47 rfl (Try.ty3.s) (by decide) rfl rfl) ?_
  refine TF.load (v := (.int .i64 _)) rfl rfl (wantF_yes rfl rfl rfl hq15) Try.underlying3 rfl rfl ((H.blk (k := 1) rfl).at_ rfl) ?_
  refine TF.call (args := [(.pointer _), (.int .i64 _)]) Try.fn19 rfl rfl (wantF_yes rfl rfl rfl hq15) rfl (tchop_nil _ _) ?_
  rintro e_ w ⟨rfl, hb16⟩
  refine ⟨_, rfl, ?_⟩
  replace H := H.below hb16
  refine TF.ug (v := (.bool _)) rfl rfl (wantF_yes rfl rfl rfl hq15) (pr_neq rfl rfl) ?_
  refine TF.u (v := (.bool _)) rfl rfl (pr_pickF rfl hq15 rfl) ?_
  refine TF.nil (nx_then ?_)
  refine cw_cond _ rfl rfl (fun hq18 => by
      have hp18 := dF (nT hq18)
      exfalso
      first | omega | exact hp18 rfl | exact hp18 (by decide) | (simp at hp18; done)) ?_
  intro hq18
  have hp18 := dT (nF hq18)
  refine cw_skip (nx_then ?_)
  refine cw_seq ?_
  -- region 7 law.go:207
  refine cw_region (clf [.U, .X, .U, .U, .U, .X, .U, .U, .U, .U, .X, .U, .U, .U, .U, .X, .U, .U, .U, .U, .X, .U, .U, .U, .U]) [0, 1, 2, 3, 4, 5, 6, 7, 8, 9, 10, 11, 12, 13, 14, 15, 16, 17, 18, 19, 20, 21, 22, 23, 24] rfl (by kernel_rfl) (by decide) ?_
  refine TF.u (v := (.pointer _)) rfl rfl (pr_move rfl) ?_
  refine TF.call (args := [(.pointer _)]) Try.fn17 rfl rfl (wantF_none rfl) rfl (tlen_nil _) ?_
  rintro e_ w ⟨rfl, hb19⟩
  refine ⟨_, rfl, ?_⟩
  replace H := H.below hb19
  refine TF.u (v := (.bool _)) rfl rfl (pr_eql rfl rfl) ?_
  refine TF.u (v := (.bool _)) rfl rfl (pr_move rfl) ?_
  refine TF.split (dj := 38) rfl ?_ (fun hq21 => by
      have hp21 := dF hq21
      exfalso
      first | omega | exact hp21 rfl | exact hp21 (by decide) | (simp at hp21; done))
  intro hq21
  have hp21 := dT hq21
  refine TF.ug (v := (.pointer _)) rfl rfl (wantF_yes rfl rfl rfl hq21) (pr_move rfl) ?_
  refine TF.call (args := [(.pointer _)]) Try.fn15 rfl rfl (wantF_yes rfl rfl rfl hq21) rfl (tsynced_nil _) ?_
  rintro e_ w ⟨rfl, hb22⟩
  refine ⟨_, rfl, ?_⟩
  replace H := H.below hb22
  refine TF.ug (v := (.bool _)) rfl rfl (wantF_yes rfl rfl rfl hq21) (pr_eql rfl rfl) ?_
  refine TF.u (v := (.bool _)) rfl rfl (pr_pickT rfl hq21 rfl) ?_
  refine TF.u (v := (.bool _)) rfl rfl (pr_move rfl) ?_
  refine TF.split (dj := 43) rfl ?_ (fun hq24 => by
      have hp24 := dF hq24
      exfalso
      first | omega | exact hp24 rfl | exact hp24 (by decide) | (simp at hp24; done))
  intro hq24
  have hp24 := dT hq24
  refine TF.ug (v := (.pointer _)) rfl rfl (wantF_yes rfl rfl rfl hq24) (pr_move rfl) ?_
  refine TF.call (args := [(.pointer _)]) Try.fn23 rfl rfl (wantF_yes rfl rfl rfl hq24) rfl (tstart_nil _) ?_
  rintro e_ w ⟨rfl, hb25⟩
  refine ⟨_, rfl, ?_⟩
  replace H := H.below hb25
  refine TF.ug (v := (.bool _)) rfl rfl (wantF_yes rfl rfl rfl hq24) (pr_eql rfl rfl) ?_
  refine TF.u (v := (.bool _)) rfl rfl (pr_pickT rfl hq24 rfl) ?_
  refine TF.u (v := (.bool _)) rfl rfl (pr_move rfl) ?_
  refine TF.split (dj := 48) rfl ?_ (fun hq27 => by
      have hp27 := dF hq27
      exfalso
      first | omega | exact hp27 rfl | exact hp27 (by decide) | (simp at hp27; done))
  intro hq27
  have hp27 := dT hq27
  refine TF.ug (v := (.pointer _)) rfl rfl (wantF_yes rfl rfl rfl hq27) (pr_move rfl) ?_
  refine TF.call (args := [(.pointer _)]) Try.fn24 rfl rfl (wantF_yes rfl rfl rfl hq27) rfl (troom_nil _) ?_
  rintro e_ w ⟨rfl, hb28⟩
  refine ⟨_, rfl, ?_⟩
  replace H := H.below hb28
  refine TF.ug (v := (.bool _)) rfl rfl (wantF_yes rfl rfl rfl hq27) (pr_eql rfl rfl) ?_
  refine TF.u (v := (.bool _)) rfl rfl (pr_pickT rfl hq27 rfl) ?_
  refine TF.u (v := (.bool _)) rfl rfl (pr_move rfl) ?_
  refine TF.split (dj := 53) rfl ?_ (fun hq30 => by
      have hp30 := dF hq30
      exfalso
      first | omega | exact hp30 rfl | exact hp30 (by decide) | (simp at hp30; done))
  intro hq30
  have hp30 := dT hq30
  refine TF.ug (v := (.pointer _)) rfl rfl (wantF_yes rfl rfl rfl hq30) (pr_move rfl) ?_
  refine TF.call (args := [(.pointer _)]) Try.fn13 rfl rfl (wantF_yes rfl rfl rfl hq30) rfl (tbytes_nil _) ?_
  rintro e_ w ⟨A31, n31, c31, rfl, hn31⟩
  refine ⟨_, rfl, ?_⟩
  replace H := H.newS hn31
  refine TF.ug (v := (.int .i64 _)) rfl rfl (wantF_yes rfl rfl rfl hq30) (pr_len rfl Try.underlying25 rfl) ?_
  refine TF.ug (v := (.bool _)) rfl rfl (wantF_yes rfl rfl rfl hq30) (pr_eql rfl rfl) ?_
  refine TF.u (v := (.bool _)) rfl rfl (pr_pickT rfl hq30 rfl) ?_
  refine TF.u (v := (.bool _)) rfl rfl (pr_assign rfl) ?_
  refine TF.nil (nx_then ?_)
  refine cw_ret (fin1 (v := (.bool _)) Try.results9 rfl rfl ?_)
  have hz := (H.rdB (k := 0) rfl).length
  exact ⟨by simp [← hz], H.base⟩
end Go.Proofs.Ytdanpfiombbdoaa
namespace Go.Proofs.Ytdanpfiombbdoaa
open Go.ChangeShapes Go.WideShapes Go.ChangeAt Go.RowKit
open Go.ChangeMaps (open_string shut_string)
theorem tapeNil_own : ownKnob Try.prog.godebug = none := by kernel_rfl
theorem tapeNil_laid : laidOutB Try.prog = true := by kernel_rfl
set_option maxRecDepth 100000 in
theorem tapeNil_lifted (os : Os) (started : os.Started) (H : Type) (enc : TypeId × Value → H) :
    ReturnsInHanded {} Try.checked os 9 .any (Rows.tapeNilSpec.pre6 enc Try.prog Try.f9 Rows.tapeNilRow.domain false) (Rows.tapeNilSpec.post enc Try.prog Try.f9 false true false false) := by
  refine returnsInHanded_of_change_sized (C := Try.checked) tapeNil_own started (by kernel_rfl) Try.func9
    (ChangeSpec.witness6 (enc := enc) (C := Try.checked) false ⟨#[], #[.agg #[.int .i64 0, .int .i64 0, .string .empty]], []⟩ 8 (by kernel_rfl) (by kernel_rfl) (by kernel_rfl) (by kernel_rfl)) ?_
  intro W base args ds gs before hval0 hW hcnd hsz0 _
  have hval : ∀ (j : Nat) t v, Try.f9.params[j]? = some t → args[j]? = some v → Value.okWide Try.prog W .any base t v := hval0
  have hW' := hW
  obtain ⟨p, q, hA0, hV, rfl, hfz, hnd⟩ := hW
  have hA : DataW.TrodAll enc Try.prog W 0 (fun _ => true) true Try.f9.params.toList args.toList ds p := hA0
  have hsz : (DataW.weightsEach Try.prog (Try.f9.params.toList ++ Rows.tapeNilSpec.plain.varTypes Try.prog) (ds ++ gs)).all (· ≤ reachBytes) = true := hsz0
  rw [Try.params9] at hA hval hsz
  obtain ⟨v0, vs0, d0, ds0, p0, q0, hargs, rfl, rfl, h0, r0⟩ := trodAll_cons hA
  obtain ⟨rfl, rfl, rfl⟩ := trodAll_nil r0
  obtain rfl : args = #[v0] := by cases args; simp_all
  obtain ⟨rfl, rfl⟩ := trodVars_none hV
  have k0 := h0
  have lt0 : ∀ x ∈ p0, x.block < W.heap.size := by obtain ⟨m, hm⟩ := k0; exact DataW.trod_lt m _ _ _ hm
  obtain ⟨fu0, hf0⟩ := h0
  obtain ⟨⟨l0⟩, rfl, hc0⟩ := okWide_struct Try.underlying47 (hval 0 47 v0 rfl rfl)
  have hl0 : l0.length = 3 := (show l0.length = Try.prog.cellsOf 47 from hc0).trans (by kernel_rfl)
  obtain ⟨x0_0, x0_1, x0_2, rfl⟩ : ∃ x0_0 x0_1 x0_2, l0 = [x0_0, x0_1, x0_2] := Go.Q.len3 hl0
  obtain ⟨m0_0, y0_0, hy0_0⟩ := Go.Q.open_fld (i := 0) Try.underlying47 hf0 rfl
  replace hy0_0 : DataW.trod enc Try.prog W 0 (fun _ => true) true m0_0 3 (([x0_0, x0_1, x0_2].drop 0).take (Try.prog.cellsOf 3)) = some y0_0 := hy0_0
  rw [show Try.prog.cellsOf 3 = 1 by kernel_rfl] at hy0_0
  obtain ⟨m0_1, y0_1, hy0_1⟩ := Go.Q.open_fld (i := 1) Try.underlying47 hf0 rfl
  replace hy0_1 : DataW.trod enc Try.prog W 0 (fun _ => true) true m0_1 3 (([x0_0, x0_1, x0_2].drop 1).take (Try.prog.cellsOf 3)) = some y0_1 := hy0_1
  rw [show Try.prog.cellsOf 3 = 1 by kernel_rfl] at hy0_1
  obtain ⟨m0_2, y0_2, hy0_2⟩ := Go.Q.open_fld (i := 2) Try.underlying47 hf0 rfl
  replace hy0_2 : DataW.trod enc Try.prog W 0 (fun _ => true) true m0_2 9 (([x0_0, x0_1, x0_2].drop 2).take (Try.prog.cellsOf 9)) = some y0_2 := hy0_2
  rw [show Try.prog.cellsOf 9 = 1 by kernel_rfl] at hy0_2
  obtain ⟨a0_0, he0_0, hw0_0⟩ := Go.Q.open_num Try.underlying3 hy0_0
  obtain rfl : x0_0 = _ := by simpa using he0_0
  have z0_0 := bounds_i64 hw0_0
  obtain ⟨a0_1, he0_1, hw0_1⟩ := Go.Q.open_num Try.underlying3 hy0_1
  obtain rfl : x0_1 = _ := by simpa using he0_1
  have z0_1 := bounds_i64 hw0_1
  obtain ⟨a0_2, he0_2, hw0_2⟩ := Go.Q.open_str Try.underlying9 hy0_2
  obtain rfl : x0_2 = _ := by simpa using he0_2
  clear hA0 hval0
  refine (TapeNil_ok a0_0 a0_1 a0_2 W z0_0.1 z0_0.2 z0_1.1 z0_1.2 hw0_2).mono fun e W' ⟨he, bel⟩ => ?_
  subst he
  exact ⟨_, rfl, _, _, _, [], _, [], hW', trodAll_mk1 (shut_bool Try.underlying4 _), (trodAll_cons_mk (Below.trod tapeNil_laid (by kernel_rfl) (of_decide_eq_true (by kernel_rfl)) k0 bel lt0) trodAll_mk0), rfl, bel.frame _, fun h => by cases h⟩
theorem tapeNil_holds : Rows.TapeNilSaid :=
  OpenClaim.holds_of_wide 9 Try.f9 rfl rfl rfl rfl rfl rfl rfl ⟨rfl, rfl, rfl, rfl, rfl⟩ rfl rfl rfl rfl rfl (by kernel_rfl) Try.func9 (by kernel_rfl)
    (of_decide_eq_true (by kernel_rfl)) (by unfold Func.isWrapper; first | (rw [if_pos (by decide +kernel)]; kernel_rfl) | (rw [if_neg (by decide +kernel)]; exact ⟨rfl, rfl⟩))
    (fun os started H enc _ => tapeNil_lifted os started H enc)
end Go.Proofs.Ytdanpfiombbdoaa
