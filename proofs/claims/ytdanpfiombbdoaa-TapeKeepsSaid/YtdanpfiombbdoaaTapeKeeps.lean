/- The given statement Rows.TapeKeepsSaid: quayside/quaysidelaw08.TapeKeeps returns true for all arguments, and leaves its arguments as they were. No further condition. -/
import Derived.Test.YtdanpfiombbdoaaFns1
import Derived.Test.YtdanpfiombbdoaaRows
import Derived.WalkKit
import Derived.ProofKit
import Derived.OpenShut
import Derived.ShutString
import Derived.ChangeOld
import Derived.Below
import Derived.SizedLaws
import Derived.JoinedCond
set_option linter.unusedSimpArgs false
set_option linter.unusedVariables false
set_option maxRecDepth 10000
namespace Go.Proofs.Ytdanpfiombbdoaa
open Go.Q Go.RowKit Go.Proofs
theorem Try.fn10 : Fnc Try.prog 10 Try.f10 := ⟨Try.func10, by kernel_rfl, by kernel_rfl⟩
theorem TapeKeeps_ok (b : List UInt8) (w0 : World) (hb : b.length ≤ 140737488351232) :
    Calls Try.prog 3 #[T b] w0 fun e w => e = .returned (.bool true) ∧ Below w0.heap.size w0 w := by
  refine enter (args := [T b]) Try.func3 rfl Try.ntmps3 rfl ?_
  have H := Sat.start w0
  refine cw_seq ?_
  -- region 0 law.go:171
  refine cw_region (clf [.U]) [0] rfl (by kernel_rfl) (by decide) ?_
  refine TF.u (v := (.bool _)) rfl rfl (pr_assign rfl) ?_
  refine TF.nil (nx_then ?_)
  refine cw_seq ?_
  refine cw_seq ?_
  -- region 1 law.go:172
  refine cw_region (clf [.X, .U, .U, .U, .U, .U, .U]) [0, 1, 2, 3, 4, 5, 6] rfl (by kernel_rfl) (by decide) ?_
  refine TF.call (args := []) Try.fn10 rfl rfl (wantF_none rfl) rfl (awake_ok _) ?_
  rintro e_ w ⟨rfl, hb1⟩
  refine ⟨_, rfl, ?_⟩
  replace H := H.below hb1
  refine TF.u (v := (.bool _)) rfl rfl (pr_not rfl) ?_
  refine TF.u (v := (.bool _)) rfl rfl (pr_move rfl) ?_
  refine TF.ug (v := (T _)) rfl rfl (wantF_yes rfl rfl rfl rfl) (pr_move rfl) ?_
  refine TF.ug (v := (.int .i64 _)) rfl rfl (wantF_yes rfl rfl rfl rfl) (pr_slen rfl Try.underlying9 rfl) ?_
  refine TF.ug (v := (.bool _)) rfl rfl (wantF_yes rfl rfl rfl rfl) (pr_gtr rfl rfl) ?_
  refine TF.u (v := (.bool _)) rfl rfl (pr_pickF rfl rfl rfl) ?_
  refine TF.nil (nx_then ?_)
  refine cw_cond _ rfl rfl (fun hq3 => ?_) (fun hq3 => ?_)
  ·
    have hp3 := dT hq3
    refine cw_seq ?_
    -- region 2 law.go:173
    refine cw_region (clf [.X, .U]) [0, 1] rfl (by kernel_rfl) (by decide) ?_
    refine TF.call (args := []) Try.fn10 rfl rfl (wantF_none rfl) rfl (awake_ok _) ?_
    rintro e_ w ⟨rfl, hb4⟩
    refine ⟨_, rfl, ?_⟩
    replace H := H.below hb4
    refine TF.u (v := (.bool _)) rfl rfl (pr_assign rfl) ?_
    refine TF.nil (nx_then ?_)
    refine cw_ret (rt_then (fin1 (v := (.bool _)) Try.results3 rfl rfl ?_))
    exact ⟨by simp, H.base⟩
  ·
    have hp3 := dF hq3
    refine cw_skip (nx_then ?_)
    refine cw_seq ?_
    -- region 3 law.go:175
    refine cw_region (clf [.X, .U]) [0, 1] rfl (by kernel_rfl) (by decide) ?_
    refine TF.call (args := [(.int .i64 _)]) Try.fn11 rfl rfl (wantF_none rfl) rfl (tnew_ok 1000 _ (by omega) (by omega)) ?_
    rintro e_ w ⟨tb5, rfl, hn5, ok5⟩
    refine ⟨_, rfl, ?_⟩
    replace H := H.newC hn5
    replace H : Sat _ _ _ [_] := H
    refine TF.u (v := (.pointer (some ⟨_, 0, none⟩))) rfl rfl (pr_assign rfl) ?_
    refine TF.nil (nx_then ?_)
    refine cw_seq ?_
    refine cw_seq ?_
    -- region 4 law.go:176
    refine cw_region (clf [.U, .U]) [0, 1] rfl (by kernel_rfl) (by decide) ?_
    refine TF.u (v := (.pointer (some ⟨_, 0, none⟩))) rfl rfl (pr_move rfl) ?_
    refine TF.u (v := (.bool _)) rfl rfl (pr_peql Try.underlying23 rfl rfl) ?_
    refine TF.nil (nx_then ?_)
    refine cw_condF (t := _) rfl rfl rfl ?_
    refine cw_skip (nx_then ?_)
    refine cw_seq ?_
    -- region 6 law.go:179
    refine cw_region (clf [.U, .X, .U]) [0, 1, 2] rfl (by kernel_rfl) (by decide) ?_
    refine TF.u (v := (T _)) rfl rfl (pr_move rfl) ?_
    refine TF.tobytes H rfl (Cx.xx rfl) (wantF_none rfl) Try.underlying9 Try.underlying25 Try.underlying5 rfl (by unfold maxLen; first | omega | (simp only [List.length_append]; omega)) ?_
    clear H
    intro Aow6 cow6 w hcapow6 hb7 H
    refine TF.u (v := (.slice _ _ _)) rfl rfl (pr_assign rfl) ?_
    refine TF.nil (nx_then ?_)
    refine cw_seq ?_
    refine cw_seq ?_
    -- region 7 law.go:180
    refine cw_region (clf [.U, .U, .X, .U]) [0, 1, 2, 3] rfl (by kernel_rfl) (by decide) ?_
    have e0 : tNew 1000 = ⟨[], 0, 1000, 0⟩ := by decide
    have e1 : tAppend ⟨[], 0, 1000, 0⟩ b = (⟨b, 0, 1000, 0⟩, 0) := by rw [tAppend_yes (by simp only [List.length_nil]; omega)]; rfl
    rw [e0] at H
    refine TF.u (v := (.pointer (some ⟨_, 0, none⟩))) rfl rfl (pr_move rfl) ?_
    refine TF.u (v := (.slice _ _ _)) rfl rfl (pr_move rfl) ?_
    obtain ⟨F8, hF8, hU8⟩ := H.focus (k := 1) rfl
    refine TF.call (args := [(.pointer (some ⟨_, 0, none⟩)), (.slice _ _ _)]) Try.fn12 rfl rfl (wantF_none rfl) rfl (tappend_ok _ _ _ _ _ _ _ _ hF8 ok5 (H.rd (k := 0) rfl) (by first | omega | (simp only [List.length_append, List.length_cons, List.length_nil]; omega))) ?_
    rintro e_ w ⟨rfl, hu8, ok8⟩
    refine ⟨_, rfl, ?_⟩
    replace H := hU8 hu8
    replace H : Sat _ _ _ [_, _] := H
    refine TF.u (v := (.bool _)) rfl rfl (pr_neq rfl rfl) ?_
    refine TF.nil (nx_then ?_)
    refine cw_cond _ rfl rfl (fun hq10 => by
        have hp10 := dF (nT hq10)
        exfalso
        rw [e1] at hp10; exact hp10 rfl) ?_
    intro hq10
    have hp10 := dT (nF hq10)
    refine cw_skip (nx_then ?_)
    refine cw_seq ?_
    refine cw_seq ?_
    -- region 9 law.go:183
    refine cw_region (clf [.U, .U, .U]) [0, 1, 2] rfl (by kernel_rfl) (by decide) ?_
    rw [e1] at H ok8
    refine TF.u (v := (.slice _ _ _)) rfl rfl (pr_move rfl) ?_
    refine TF.u (v := (.int .i64 _)) rfl rfl (pr_len rfl Try.underlying25 rfl) ?_
    refine TF.u (v := (.int .i64 _)) rfl rfl (pr_move rfl) ?_
    refine TF.nil (nx_then ?_)
    refine cw_block ?_
    refine cw_loop (fun m f w => ∃ (g_ : Nat → Value) (i : Nat) (xs : List UInt8), m = b.length - i ∧ f = (upd (upd (upd (upd (upd g_ 0 (T b)) 3 (.pointer (some ⟨tb5, 0, none⟩))) 4 (.slice Aow6 b.length cow6)) 26 (.int .i64 (b.length : Int))) 27 (.int .i64 (i : Int))) ∧ Sat [] w0 w [cOwnB 5 Aow6 b.length cow6 xs, cTape 5 44 tb5 ⟨b, 0, 1000, 0⟩] ∧ i ≤ b.length ∧ xs.length = b.length) (b.length - 0) ?_ ?_
    ·
      exact ⟨_, 0, _, rfl, (cutS (cutS (cutS (cutS (cutS rfl rfl) rfl) rfl) rfl) rfl), (H.two (i := 0) (j := 0) rfl rfl), Nat.zero_le _, (H.rdB (k := 0) rfl).length⟩
    ·
      clear H
      rintro m_ f_ w ⟨g_, i, xs, rfl, rfl, H, hi, hx1⟩
      refine cw_seq ?_
      -- region 10 law.go:183
      refine cw_region (clf [.U]) [0] rfl (by kernel_rfl) (by decide) ?_
      refine TF.u (v := (.bool _)) rfl rfl (pr_lss rfl rfl) ?_
      refine TF.nil (nx_then ?_)
      refine cw_seq ?_
      refine cw_cond _ rfl rfl (fun hq12 => ?_) (fun hq12 => ?_)
      ·
        have hp12 := dT hq12
        refine cw_skip (nx_then ?_)
        refine cw_seq ?_
        refine cw_block ?_
        refine cw_seq ?_
        -- region 11 law.go:183
        refine cw_region (clf [.U, .U]) [0, 1] rfl (by kernel_rfl) (by decide) ?_
        refine TF.u (v := (.int .i64 _)) rfl rfl (pr_move rfl) ?_
        refine TF.u (v := (.int .i64 _)) rfl rfl (pr_assign rfl) ?_
        refine TF.nil (nx_then ?_)
        -- region 12 law.go:184
        refine cw_region (clf [.U, .U, .U, .X, .U, .U, .X]) [0, 1, 2, 3, 4, 5, 6] rfl (by kernel_rfl) (by decide) ?_
        refine TF.u (v := (.slice _ _ _)) rfl rfl (pr_move rfl) ?_
        refine TF.u (v := (.int .i64 _)) rfl rfl (pr_move rfl) ?_
        refine TF.idxB (H.rd (k := 0) rfl) rfl rfl (wantF_none rfl) Try.underlying25 (Try.ty5.s) rfl rfl (by omega) (by omega) ?_
        intro p13 hc14
        refine TF.load (v := (.int .u8 _)) rfl rfl (wantF_none rfl) Try.underlying5 rfl rfl hc14 ?_
        refine TF.u (v := (.int .u8 _)) rfl rfl (pr_xor rfl rfl (x8 _ 255)) ?_
        obtain ⟨g17, rfl⟩ := H.ownSome (k := 0) rfl (by omega)
        refine TF.u (v := (.pointer (some ⟨g17, _, none⟩))) rfl rfl (pr_idxO (b := g17) (o' := _) Try.underlying25 (Try.ty5.s) rfl rfl (by omega) (by omega) (Nat.mul_one _)) ?_
        refine TF.storeO (v := (u8 _)) (q := 0) H rfl rfl rfl (wantF_none rfl) (Try.ty5.s) rfl rfl rfl (by simp; omega) ?_
        clear H
        intro w ho18 H
        replace H : Sat _ _ _ [_, _] := H
        rw [u8s_set] at H
        refine TF.nil (nx_block (nx_then ?_))
        -- region 13 law.go:183
        refine cw_region (clf [.U, .U]) [0, 1] rfl (by kernel_rfl) (by decide) ?_
        refine TF.u (v := (.int .i64 _)) rfl rfl (pr_add rfl rfl (IntWalk.i64_in _ (by omega))) ?_
        refine TF.u (v := (.int .i64 _)) rfl rfl (pr_move rfl) ?_
        refine TF.nil (nx_loop (m' := b.length - (i + 1)) (by omega) ?_)
        exact ⟨_, i + 1, _, rfl, (cutS (cutS (cutS (cutS (cutS rfl rfl) rfl) rfl) rfl) rfl), H, by omega, by simpa using hx1⟩
      ·
        have hp12 := dF hq12
        refine cw_exit (ex_then (ex_then (ex_here (nx_then ?_))))
        refine cw_seq ?_
        -- region 14 law.go:186
        refine cw_region (clf [.U, .X, .U]) [0, 1, 2] rfl (by kernel_rfl) (by decide) ?_
        refine TF.u (v := (.pointer (some ⟨_, 0, none⟩))) rfl rfl (pr_move rfl) ?_
        obtain ⟨F19, hF19, hU19⟩ := H.focus (k := 1) rfl
        refine TF.call (args := [(.pointer (some ⟨_, 0, none⟩))]) Try.fn13 rfl rfl (wantF_none rfl) rfl (tbytes_ok _ _ _ _ hF19 ok8) ?_
        rintro e_ w ⟨A19, n19, c19, rfl, hn19⟩
        refine ⟨_, rfl, ?_⟩
        replace H := H.newS hn19
        refine TF.u (v := (.slice _ _ _)) rfl rfl (pr_assign rfl) ?_
        refine TF.nil (nx_then ?_)
        refine cw_seq ?_
        refine cw_seq ?_
        -- region 15 law.go:187
        refine cw_region (clf [.U, .X, .U, .U]) [0, 1, 2, 3] rfl (by kernel_rfl) (by decide) ?_
        refine TF.u (v := (.slice _ _ _)) rfl rfl (pr_move rfl) ?_
        refine TF.tostr (H.rd (k := 0) rfl) rfl rfl (wantF_none rfl) Try.underlying25 Try.underlying5 Try.underlying9 rfl ?_
        refine TF.u (v := (T _)) rfl rfl (pr_move rfl) ?_
        refine TF.u (v := (.bool _)) rfl rfl (pr_sneq rfl rfl) ?_
        refine TF.nil (nx_then ?_)
        refine cw_cond _ rfl rfl (fun hq22 => by
            have hp22 := eF (nT hq22)
            exfalso
            first | omega | exact hp22 rfl | exact hp22 (by decide) | (simp at hp22; done)) ?_
        intro hq22
        have hp22 := eT (nF hq22)
        refine cw_skip (nx_then ?_)
        refine cw_seq ?_
        refine cw_seq ?_
        -- region 17 law.go:190
        refine cw_region (clf [.U, .U, .U]) [0, 1, 2] rfl (by kernel_rfl) (by decide) ?_
        have hx0 : b.length = n19 := (H.rdB (k := 0) rfl).length
        refine TF.u (v := (.slice _ _ _)) rfl rfl (pr_move rfl) ?_
        refine TF.u (v := (.int .i64 _)) rfl rfl (pr_len rfl Try.underlying25 rfl) ?_
        refine TF.u (v := (.int .i64 _)) rfl rfl (pr_move rfl) ?_
        refine TF.nil (nx_then ?_)
        refine cw_block ?_
        refine cw_loop (fun m f w => ∃ (g_ : Nat → Value) (i : Nat) (xs : List UInt8), m = n19 - i ∧ f = (upd (upd (upd (upd (upd g_ 0 (T b)) 3 (.pointer (some ⟨tb5, 0, none⟩))) 6 (.slice A19 n19 c19)) 44 (.int .i64 (n19 : Int))) 45 (.int .i64 (i : Int))) ∧ Sat [] w0 w [cOwnB 5 A19 n19 c19 xs, cTape 5 44 tb5 ⟨b, 0, 1000, 0⟩] ∧ i ≤ n19 ∧ xs.length = n19) (n19 - 0) ?_ ?_
        ·
          exact ⟨_, 0, _, rfl, (cutS (cutS (cutS (cutS (cutS rfl rfl) rfl) rfl) rfl) rfl), (H.two (i := 0) (j := 1) rfl rfl), Nat.zero_le _, (H.rdB (k := 0) rfl).length⟩
        ·
          clear H
          rintro m_ f_ w ⟨g_, i, xs, rfl, rfl, H, hi, hx1⟩
          refine cw_seq ?_
          -- region 18 law.go:190
          refine cw_region (clf [.U]) [0] rfl (by kernel_rfl) (by decide) ?_
          refine TF.u (v := (.bool _)) rfl rfl (pr_lss rfl rfl) ?_
          refine TF.nil (nx_then ?_)
          refine cw_seq ?_
          refine cw_cond _ rfl rfl (fun hq24 => ?_) (fun hq24 => ?_)
          ·
            have hp24 := dT hq24
            refine cw_skip (nx_then ?_)
            refine cw_seq ?_
            refine cw_block ?_
            refine cw_seq ?_
            -- region 19 law.go:190
            refine cw_region (clf [.U, .U]) [0, 1] rfl (by kernel_rfl) (by decide) ?_
            refine TF.u (v := (.int .i64 _)) rfl rfl (pr_move rfl) ?_
            refine TF.u (v := (.int .i64 _)) rfl rfl (pr_assign rfl) ?_
            refine TF.nil (nx_then ?_)
            -- region 20 law.go:191
            refine cw_region (clf [.U, .U, .U, .X, .U, .U, .X]) [0, 1, 2, 3, 4, 5, 6] rfl (by kernel_rfl) (by decide) ?_
            refine TF.u (v := (.slice _ _ _)) rfl rfl (pr_move rfl) ?_
            refine TF.u (v := (.int .i64 _)) rfl rfl (pr_move rfl) ?_
            refine TF.idxB (H.rd (k := 0) rfl) rfl rfl (wantF_none rfl) Try.underlying25 (Try.ty5.s) rfl rfl (by omega) (by omega) ?_
            intro p25 hc26
            refine TF.load (v := (.int .u8 _)) rfl rfl (wantF_none rfl) Try.underlying5 rfl rfl hc26 ?_
            refine TF.u (v := (.int .u8 _)) rfl rfl (pr_xor rfl rfl (x8 _ 255)) ?_
            obtain ⟨g29, rfl⟩ := H.ownSome (k := 0) rfl (by omega)
            refine TF.u (v := (.pointer (some ⟨g29, _, none⟩))) rfl rfl (pr_idxO (b := g29) (o' := _) Try.underlying25 (Try.ty5.s) rfl rfl (by omega) (by omega) (Nat.mul_one _)) ?_
            refine TF.storeO (v := (u8 _)) (q := 0) H rfl rfl rfl (wantF_none rfl) (Try.ty5.s) rfl rfl rfl (by simp; omega) ?_
            clear H
            intro w ho30 H
            replace H : Sat _ _ _ [_, _] := H
            rw [u8s_set] at H
            refine TF.nil (nx_block (nx_then ?_))
            -- region 21 law.go:190
            refine cw_region (clf [.U, .U]) [0, 1] rfl (by kernel_rfl) (by decide) ?_
            refine TF.u (v := (.int .i64 _)) rfl rfl (pr_add rfl rfl (IntWalk.i64_in _ (by omega))) ?_
            refine TF.u (v := (.int .i64 _)) rfl rfl (pr_move rfl) ?_
            refine TF.nil (nx_loop (m' := n19 - (i + 1)) (by omega) ?_)
            exact ⟨_, i + 1, _, rfl, (cutS (cutS (cutS (cutS (cutS rfl rfl) rfl) rfl) rfl) rfl), H, by omega, by simpa using hx1⟩
          ·
            have hp24 := dF hq24
            refine cw_exit (ex_then (ex_then (ex_here (nx_then ?_))))
            refine cw_seq ?_
            -- region 22 law.go:193
            refine cw_region (clf [.U, .X, .U]) [0, 1, 2] rfl (by kernel_rfl) (by decide) ?_
            refine TF.u (v := (.slice _ _ _)) rfl rfl (pr_move rfl) ?_
            refine TF.append (q := 0) (v := (T _)) H rfl rfl rfl (wantF_none rfl) Try.underlying25 (Try.ty5) rfl Try.underlying9 (.inl rfl) rfl rfl (Src.text _ _) (by unfold maxLen; first | omega | (simp only [List.length_append, List.length_cons, List.length_nil]; omega)) (by first | omega | (simp only [List.length_append, List.length_cons, List.length_nil]; omega)) ?_
            clear H
            intro Aow20_31 cow20_31 w ho31 H
            replace H : Sat _ _ _ [_, _] := H
            rw [← u8s_app] at H
            refine TF.u (v := (.slice _ _ _)) rfl rfl (pr_assign rfl) ?_
            refine TF.nil (nx_then ?_)
            refine cw_seq ?_
            -- region 23 law.go:194
            refine cw_region (clf [.U, .X, .X, .U, .U, .U, .U, .U, .U, .U, .U, .U, .U, .U]) [0, 1, 2, 3, 4, 5, 6, 7, 8, 9, 10, 11, 12, 13] rfl (by kernel_rfl) (by decide) ?_
            refine TF.u (v := (.pointer (some ⟨_, 0, none⟩))) rfl rfl (pr_move rfl) ?_
            obtain ⟨F32, hF32, hU32⟩ := H.focus (k := 1) rfl
            refine TF.call (args := [(.pointer (some ⟨_, 0, none⟩))]) Try.fn13 rfl rfl (wantF_none rfl) rfl (tbytes_ok _ _ _ _ hF32 ok8) ?_
            rintro e_ w ⟨A32, n32, c32, rfl, hn32⟩
            refine ⟨_, rfl, ?_⟩
            replace H := H.newS hn32
            refine TF.tostr (H.rd (k := 0) rfl) rfl rfl (wantF_none rfl) Try.underlying25 Try.underlying5 Try.underlying9 rfl ?_
            refine TF.u (v := (T _)) rfl rfl (pr_move rfl) ?_
            refine TF.u (v := (.bool _)) rfl rfl (pr_seql rfl rfl) ?_
            refine TF.u (v := (.bool _)) rfl rfl (pr_move rfl) ?_
            refine TF.split (dj := 62) rfl ?_ (fun hq35 => by
                have hp35 := eF hq35
                exfalso
                first | omega | exact hp35 rfl | exact hp35 (by decide) | (simp at hp35; done))
            intro hq35
            have hp35 := eT hq35
            refine TF.ug (v := (.slice _ _ _)) rfl rfl (wantF_yes rfl rfl rfl hq35) (pr_move rfl) ?_
            refine TF.ug (v := (.int .i64 _)) rfl rfl (wantF_yes rfl rfl rfl hq35) (pr_len rfl Try.underlying25 rfl) ?_
            refine TF.ug (v := (T _)) rfl rfl (wantF_yes rfl rfl rfl hq35) (pr_move rfl) ?_
            refine TF.ug (v := (.int .i64 _)) rfl rfl (wantF_yes rfl rfl rfl hq35) (pr_slen rfl Try.underlying9 rfl) ?_
            refine TF.ug (v := (.int .i64 _)) rfl rfl (wantF_yes rfl rfl rfl hq35) (pr_add rfl rfl (IntWalk.i64_in _ (by omega))) ?_
            refine TF.ug (v := (.bool _)) rfl rfl (wantF_yes rfl rfl rfl hq35) (pr_eql rfl rfl) ?_
            refine TF.u (v := (.bool _)) rfl rfl (pr_pickT rfl hq35 rfl) ?_
            refine TF.u (v := (.bool _)) rfl rfl (pr_assign rfl) ?_
            refine TF.nil (nx_then ?_)
            refine cw_ret (fin1 (v := (.bool _)) Try.results3 rfl rfl ?_)
            exact ⟨by simp; omega, H.base⟩
end Go.Proofs.Ytdanpfiombbdoaa
namespace Go.Proofs.Ytdanpfiombbdoaa
open Go.ChangeShapes Go.WideShapes Go.ChangeAt Go.RowKit
open Go.ChangeMaps (open_string shut_string)
theorem tapeKeeps_own : ownKnob Try.prog.godebug = none := by kernel_rfl
set_option maxRecDepth 100000 in
theorem tapeKeeps_lifted (os : Os) (started : os.Started) (H : Type) (enc : TypeId × Value → H) :
    ReturnsInHanded {} Try.checked os 3 .any (Rows.tapeKeepsSpec.pre6 enc Try.prog Try.f3 Rows.tapeKeepsRow.domain false) (Rows.tapeKeepsSpec.post enc Try.prog Try.f3 false true false false) := by
  refine returnsInHanded_of_change_sized (C := Try.checked) tapeKeeps_own started (by kernel_rfl) Try.func3
    (ChangeSpec.witness6 (enc := enc) (C := Try.checked) false ⟨#[], #[.string .empty], []⟩ 8 (by kernel_rfl) (by kernel_rfl) (by kernel_rfl) (by kernel_rfl)) ?_
  intro W base args ds gs before hval0 hW hcnd hsz0 _
  have hval : ∀ (j : Nat) t v, Try.f3.params[j]? = some t → args[j]? = some v → Value.okWide Try.prog W .any base t v := hval0
  have hW' := hW
  obtain ⟨p, q, hA0, hV, rfl, hfz, hnd⟩ := hW
  have hA : DataW.TrodAll enc Try.prog W 0 (fun _ => true) true Try.f3.params.toList args.toList ds p := hA0
  have hsz : (DataW.weightsEach Try.prog (Try.f3.params.toList ++ Rows.tapeKeepsSpec.plain.varTypes Try.prog) (ds ++ gs)).all (· ≤ reachBytes) = true := hsz0
  rw [Try.params3] at hA hval hsz
  obtain ⟨v0, vs0, d0, ds0, p0, q0, hargs, rfl, rfl, h0, r0⟩ := trodAll_cons hA
  obtain ⟨rfl, rfl, rfl⟩ := trodAll_nil r0
  obtain rfl : args = #[v0] := by cases args; simp_all
  obtain ⟨rfl, rfl⟩ := trodVars_none hV
  obtain ⟨a0, rfl, rfl, rfl, m0⟩ := open_string Try.underlying9 (hval 0 9 v0 rfl rfl) h0
  have z0 : a0.data.toList.length ≤ 140737488351232 := sized_string hsz (j := 0) rfl rfl
  clear hA0 hval0
  refine (TapeKeeps_ok a0.data.toList W z0).mono fun e W' ⟨he, bel⟩ => ?_
  subst he
  exact ⟨_, rfl, _, _, _, [], _, [], hW', trodAll_mk1 (shut_bool Try.underlying4 _), (trodAll_cons_mk (shut_string Try.underlying9 m0) trodAll_mk0), rfl, bel.frame _, fun h => by cases h⟩
theorem tapeKeeps_holds : Rows.TapeKeepsSaid :=
  OpenClaim.holds_of_wide 3 Try.f3 rfl rfl rfl rfl rfl rfl rfl ⟨rfl, rfl, rfl, rfl, rfl⟩ rfl rfl rfl rfl rfl (by kernel_rfl) Try.func3 (by kernel_rfl)
    (of_decide_eq_true (by kernel_rfl)) (by unfold Func.isWrapper; first | (rw [if_pos (by decide +kernel)]; kernel_rfl) | (rw [if_neg (by decide +kernel)]; exact ⟨rfl, rfl⟩))
    (fun os started H enc _ => tapeKeeps_lifted os started H enc)
end Go.Proofs.Ytdanpfiombbdoaa
