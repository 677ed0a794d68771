/- The given statement Rows.SumKeepsSaid: quayside/quaysidelaw02.SumKeeps returns true for all arguments, and leaves its arguments as they were. No further condition. -/
import Derived.Test.YtmfepnngjpmljaaFns1
import Derived.Test.YtmfepnngjpmljaaRows
import Derived.WalkKit
import Derived.ProofKit
import Derived.OpenShut
import Derived.ShutString
import Derived.ChangeOld
import Derived.Below
import Derived.SizedLaws
import Derived.JoinedCond
set_option linter.unusedSimpArgs false
set_option linter.unusedVariables false
set_option maxRecDepth 10000
namespace Go.Proofs.Ytmfepnngjpmljaa
open Go.Q Go.RowKit Go.Proofs
theorem Try.fn10 : Fnc Try.prog 10 Try.f10 := ⟨Try.func10, by kernel_rfl, by kernel_rfl⟩
theorem Try.fn15 : Fnc Try.prog 15 Try.f15 := ⟨Try.func15, by kernel_rfl, by kernel_rfl⟩
theorem Try.fn17 : Fnc Try.prog 17 Try.f17 := ⟨Try.func17, by kernel_rfl, by kernel_rfl⟩
theorem SumKeeps_ok (b : List UInt8) (w0 : World) (hb : b.length ≤ 140737488351232) :
    Calls Try.prog 9 #[T b] w0 fun e w => e = .returned (.bool true) ∧ Below w0.heap.size w0 w := by
  refine enter (args := [T b]) Try.func9 rfl Try.ntmps9 rfl ?_
  have H := Sat.start w0
  refine cw_seq ?_
  -- region 0 law.go:88
  refine cw_region (clf [.U]) [0] rfl (by kernel_rfl) (by decide) ?_
  refine TF.u (v := (.bool _)) rfl rfl (pr_assign rfl) ?_
  refine TF.nil (nx_then ?_)
  refine cw_seq ?_
  refine cw_seq ?_
  -- region 1 law.go:89
  refine cw_region (clf [.X, .U, .U, .U, .U, .U, .U]) [0, 1, 2, 3, 4, 5, 6] rfl (by kernel_rfl) (by decide) ?_
  refine TF.call (args := []) Try.fn10 rfl rfl (wantF_none rfl) rfl (awake_ok _) ?_
  rintro e_ w ⟨rfl, hb1⟩
  refine ⟨_, rfl, ?_⟩
  replace H := H.below hb1
  refine TF.u (v := (.bool _)) rfl rfl (pr_not rfl) ?_
  refine TF.u (v := (.bool _)) rfl rfl (pr_move rfl) ?_
  refine TF.ug (v := (T _)) rfl rfl (wantF_yes rfl rfl rfl rfl) (pr_move rfl) ?_
  refine TF.ug (v := (.int .i64 _)) rfl rfl (wantF_yes rfl rfl rfl rfl) (pr_slen rfl Try.underlying9 rfl) ?_
  refine TF.ug (v := (.bool _)) rfl rfl (wantF_yes rfl rfl rfl rfl) (pr_gtr rfl rfl) ?_
  refine TF.u (v := (.bool _)) rfl rfl (pr_pickF rfl rfl rfl) ?_
  refine TF.nil (nx_then ?_)
  refine cw_cond _ rfl rfl (fun hq3 => ?_) (fun hq3 => ?_)
  ·
    have hp3 := dT hq3
    refine cw_seq ?_
    -- region 2 law.go:90
    refine cw_region (clf [.X, .U]) [0, 1] rfl (by kernel_rfl) (by decide) ?_
    refine TF.call (args := []) Try.fn10 rfl rfl (wantF_none rfl) rfl (awake_ok _) ?_
    rintro e_ w ⟨rfl, hb4⟩
    refine ⟨_, rfl, ?_⟩
    replace H := H.below hb4
    refine TF.u (v := (.bool _)) rfl rfl (pr_assign rfl) ?_
    refine TF.nil (nx_then ?_)
    refine cw_ret (rt_then (fin1 (v := (.bool _)) Try.results9 rfl rfl ?_))
    exact ⟨by simp, H.base⟩
  ·
    have hp3 := dF hq3
    refine cw_skip (nx_then ?_)
    refine cw_seq ?_
    -- region 3 law.go:92
    refine cw_region (clf [.U, .U, .U, .U, .U, .X, .U]) [0, 1, 2, 3, 4, 5, 6] rfl (by kernel_rfl) (by decide) ?_
    refine TF.u (v := (T _)) rfl rfl (pr_move rfl) ?_
    refine TF.u (v := (.int .i64 _)) rfl rfl (pr_slen rfl Try.underlying9 rfl) ?_
    refine TF.u (v := (T _)) rfl rfl (pr_move rfl) ?_
    refine TF.u (v := (.int .i64 _)) rfl rfl (pr_slen rfl Try.underlying9 rfl) ?_
    refine TF.u (v := (.int .i64 _)) rfl rfl (pr_add rfl rfl (IntWalk.i64_in _ (by omega))) ?_
    refine TF.make (nl := b.length) (nc := b.length + 8) (z1 := undef) H rfl (Cx.xx rfl) (wantF_none rfl) Try.underlying25 (Try.ty5) rfl (by rfl) (by omega) (by omega) (by unfold maxLen; omega) ?_
    clear H
    intro bk5 w hltbk5 hb6 H
    rw [made_u8] at H
    refine TF.u (v := (.slice _ _ _)) rfl rfl (pr_assign rfl) ?_
    refine TF.nil (nx_then ?_)
    refine cw_seq ?_
    -- region 4 law.go:93
    refine cw_region (clf [.U, .U, .X]) [0, 1, 2] rfl (by kernel_rfl) (by decide) ?_
    refine TF.u (v := (.slice _ _ _)) rfl rfl (pr_move rfl) ?_
    refine TF.u (v := (T _)) rfl rfl (pr_move rfl) ?_
    refine TF.copy (q := 0) (v := (T b)) (m := b.length) (m' := b.length) (news := u8s (b.take b.length)) H rfl rfl rfl (wantF_none rfl) Try.underlying25 (Try.ty5.s) rfl rfl (fun _ => rfl) (Nat.min_self _) (first_text _ _ _) (fun _ => u8s_one) (by simp [u8s_len]) ?_
    clear H
    intro w ho1 H
    replace H : Sat _ _ _ [_] := H
    rw [List.take_length] at H
    simp only [List.take_zero, List.nil_append, Nat.zero_add, u8s_len, u8s_drop, List.drop_replicate, Nat.add_sub_cancel_left, ← u8s_app] at H
    have hroom := (H.blk (k := 0) rfl).rdB (o := 0) (m := b.length) (c := b.length + 8) (ds := b) (by simp) (by omega) (by unfold maxLen; omega) (by simp)
    refine TF.nil (nx_then ?_)
    refine cw_seq ?_
    -- region 5 law.go:94
    refine cw_region (clf [.U, .X, .U]) [0, 1, 2] rfl (by kernel_rfl) (by decide) ?_
    refine TF.u (v := (.slice _ _ _)) rfl rfl (pr_move rfl) ?_
    refine TF.call (args := [(.slice _ _ _)]) Try.fn17 rfl rfl (wantF_none rfl) rfl (seal_ok _ _ _ _ _ hroom (by first | omega | (simp only [List.length_append]; omega))) ?_
    rintro e_ w ⟨A7, n7, c7, rfl, hn7⟩
    refine ⟨_, rfl, ?_⟩
    replace hroom := hroom.below hn7.below
    replace H := H.newS hn7
    refine TF.u (v := (.slice _ _ _)) rfl rfl (pr_assign rfl) ?_
    refine TF.nil (nx_then ?_)
    refine cw_seq ?_
    -- region 6 law.go:95
    refine cw_region (clf [.U, .U, .U, .U, .U, .U]) [0, 1, 2, 3, 4, 5] rfl (by kernel_rfl) (by decide) ?_
    refine TF.u (v := (.slice _ _ _)) rfl rfl (pr_move rfl) ?_
    refine TF.u (v := (T _)) rfl rfl (pr_move rfl) ?_
    refine TF.u (v := (.int .i64 _)) rfl rfl (pr_slen rfl Try.underlying9 rfl) ?_
    refine TF.u (v := (.int .i64 _)) rfl rfl (pr_add rfl rfl (IntWalk.i64_in _ (by omega))) ?_
    refine TF.u (v := (.slice _ _ _)) rfl rfl (pr_cut (l := 0) (h := b.length + 8) (mm := b.length + 8) Try.underlying25 (Try.ty5.s) rfl (.inl ⟨rfl, rfl⟩) (.inr ⟨_, _, rfl, (by rfl)⟩) (.inl ⟨rfl, rfl⟩) (by omega) (by omega) (by omega) (n' := b.length + 8) (c' := b.length + 8) (by omega) (by omega)) ?_
    have hall := (H.blk (k := 1) rfl).rdB (o := 0) (m := b.length + 8) (c := b.length + 8) (ds := b ++ List.replicate 8 0) (by simp) (by omega) (by unfold maxLen; omega) (by rw [List.drop_zero, List.take_of_length_le (by simp)])
    refine TF.u (v := (.slice _ _ _)) rfl rfl (pr_assign rfl) ?_
    refine TF.nil (nx_then ?_)
    refine cw_seq ?_
    refine cw_seq ?_
    -- region 7 law.go:96
    refine cw_region (clf [.U, .U, .U]) [0, 1, 2] rfl (by kernel_rfl) (by decide) ?_
    refine TF.u (v := (T _)) rfl rfl (pr_move rfl) ?_
    refine TF.u (v := (.int .i64 _)) rfl rfl (pr_slen rfl Try.underlying9 rfl) ?_
    refine TF.u (v := (.int .i64 _)) rfl rfl (pr_assign rfl) ?_
    refine TF.nil (nx_then ?_)
    refine cw_block ?_
    refine cw_loop (fun m f w => ∃ (g_ : Nat → Value) (i : Nat), m = b.length + 8 - i ∧ f = (upd (upd (upd (upd (upd g_ 0 (T b)) 3 (.slice (some ⟨bk5, 0, none⟩) b.length (b.length + 8))) 4 (.slice A7 n7 c7)) 5 (.slice (some ⟨bk5, 0, none⟩) (b.length + 8) (b.length + 8))) 6 (.int .i64 (i : Int))) ∧ Sat [] w0 w [cOwnB 5 A7 n7 c7 (sealS b), cBlk bk5 5 (u8s (b ++ List.replicate 8 0))] ∧ b.length ≤ i ∧ i ≤ b.length + 8) (b.length + 8 - b.length) ?_ ?_
    ·
      exact ⟨_, b.length, rfl, (cutS (cutS (cutS (cutS (cutS rfl rfl) rfl) rfl) rfl) rfl), H, Nat.le_refl _, Nat.le_add_right _ _⟩
    ·
      clear H
      rintro m_ f_ w ⟨g_, i, rfl, rfl, H, hi, hi2⟩
      have hall := (H.blk (k := 1) rfl).rdB (o := 0) (m := b.length + 8) (c := b.length + 8) (ds := b ++ List.replicate 8 0) (by simp) (by omega) (by unfold maxLen; omega) (by rw [List.drop_zero, List.take_of_length_le (by simp)])
      refine cw_seq ?_
      refine cw_seq ?_
      -- region 8 law.go:96
      refine cw_region (clf [.U, .U, .U, .U]) [0, 1, 2, 3] rfl (by kernel_rfl) (by decide) ?_
      refine TF.u (v := (.int .i64 _)) rfl rfl (pr_move rfl) ?_
      refine TF.u (v := (.slice _ _ _)) rfl rfl (pr_move rfl) ?_
      refine TF.u (v := (.int .i64 _)) rfl rfl (pr_len rfl Try.underlying25 rfl) ?_
      refine TF.u (v := (.bool _)) rfl rfl (pr_lss rfl rfl) ?_
      refine TF.nil (nx_then ?_)
      refine cw_cond _ rfl rfl (fun hq10 => ?_) (fun hq10 => ?_)
      ·
        have hp10 := dT hq10
        refine cw_skip (nx_then ?_)
        refine cw_seq ?_
        refine cw_block ?_
        refine cw_seq ?_
        -- region 10 law.go:97
        refine cw_region (clf [.U, .U, .U, .X, .U]) [0, 1, 2, 3, 4] rfl (by kernel_rfl) (by decide) ?_
        have hz : (b ++ List.replicate 8 0).getD (i : Int).toNat 0 = 0 := pad_getD (by omega)
        refine TF.u (v := (.slice _ _ _)) rfl rfl (pr_move rfl) ?_
        refine TF.u (v := (.int .i64 _)) rfl rfl (pr_move rfl) ?_
        refine TF.idxB hall rfl rfl (wantF_none rfl) Try.underlying25 (Try.ty5.s) rfl rfl (by omega) (by omega) ?_
        intro p11 hc12
        refine TF.load (v := (.int .u8 _)) rfl rfl (wantF_none rfl) Try.underlying5 rfl rfl hc12 ?_
        refine TF.u (v := (.bool _)) rfl rfl (pr_neq rfl rfl) ?_
        refine TF.nil (nx_then ?_)
        refine cw_cond _ rfl rfl (fun hq14 => by
            have hp14 := dF (nT hq14)
            exfalso
            rw [hz] at hp14; exact hp14 rfl) ?_
        intro hq14
        have hp14 := dT (nF hq14)
        refine cw_skip (nx_block (nx_then ?_))
        -- region 9 law.go:96
        refine cw_region (clf [.U, .U, .U]) [0, 1, 2] rfl (by kernel_rfl) (by decide) ?_
        refine TF.u (v := (.int .i64 _)) rfl rfl (pr_move rfl) ?_
        refine TF.u (v := (.int .i64 _)) rfl rfl (pr_add rfl rfl (IntWalk.i64_in _ (by omega))) ?_
        refine TF.u (v := (.int .i64 _)) rfl rfl (pr_assign rfl) ?_
        refine TF.nil (nx_loop (m' := b.length + 8 - (i + 1)) (by omega) ?_)
        exact ⟨_, i + 1, rfl, (cutS (cutS (cutS (cutS (cutS rfl rfl) rfl) rfl) rfl) rfl), H, by omega, by omega⟩
      ·
        have hp10 := dF hq10
        refine cw_exit (ex_then (ex_then (ex_here (nx_then ?_))))
        refine cw_seq ?_
        refine cw_seq ?_
        -- region 12 law.go:101
        refine cw_region (clf [.U, .U, .U, .U, .U, .U]) [0, 1, 2, 3, 4, 5] rfl (by kernel_rfl) (by decide) ?_
        have hs1 := (H.rdB (k := 0) rfl).length
        rw [sealS_len] at hs1
        refine TF.u (v := (.slice _ _ _)) rfl rfl (pr_move rfl) ?_
        refine TF.u (v := (.int .i64 _)) rfl rfl (pr_len rfl Try.underlying25 rfl) ?_
        refine TF.u (v := (T _)) rfl rfl (pr_move rfl) ?_
        refine TF.u (v := (.int .i64 _)) rfl rfl (pr_slen rfl Try.underlying9 rfl) ?_
        refine TF.u (v := (.int .i64 _)) rfl rfl (pr_add rfl rfl (IntWalk.i64_in _ (by omega))) ?_
        refine TF.u (v := (.bool _)) rfl rfl (pr_neq rfl rfl) ?_
        refine TF.nil (nx_then ?_)
        refine cw_cond _ rfl rfl (fun hq16 => by
            have hp16 := dF (nT hq16)
            exfalso
            first | omega | exact hp16 rfl | exact hp16 (by decide) | (simp at hp16; done)) ?_
        intro hq16
        have hp16 := dT (nF hq16)
        refine cw_skip (nx_then ?_)
        refine cw_seq ?_
        -- region 14 law.go:104
        refine cw_region (clf [.U, .X, .U, .U, .U, .U, .U]) [0, 1, 2, 3, 4, 5, 6] rfl (by kernel_rfl) (by decide) ?_
        refine TF.u (v := (.slice _ _ _)) rfl rfl (pr_move rfl) ?_
        refine TF.call (args := [(.slice _ _ _)]) Try.fn15 rfl rfl (wantF_none rfl) rfl (open_ok _ _ _ _ _ (H.rd (k := 0) rfl) (by first | omega | (simp only [List.length_append]; omega))) ?_
        rintro e_ w ⟨A17, n17, c17, rfl, hn17⟩
        refine ⟨_, rfl, ?_⟩
        replace H := H.newS hn17
        refine TF.u (v := (.tuple _)) rfl rfl (pr_move rfl) ?_
        refine TF.u (v := (.slice _ _ _)) rfl rfl (pr_extract (vs := _) rfl rfl) ?_
        refine TF.u (v := (.int .i64 _)) rfl rfl (pr_extract (vs := _) rfl rfl) ?_
        refine TF.u (v := (.slice _ _ _)) rfl rfl (pr_assign rfl) ?_
        refine TF.u (v := (.int .i64 _)) rfl rfl (pr_assign rfl) ?_
        refine TF.nil (nx_then ?_)
        refine cw_seq ?_
        refine cw_seq ?_
        -- region 15 law.go:105
        refine cw_region (clf [.U, .U, .U, .U, .U, .U, .U, .U, .U]) [0, 1, 2, 3, 4, 5, 6, 7, 8] rfl (by kernel_rfl) (by decide) ?_
        rw [open_seal] at H ⊢
        have hx0 := (H.rdB (k := 0) rfl).length
        simp only at hx0
        refine TF.u (v := (.int .i64 _)) rfl rfl (pr_move rfl) ?_
        refine TF.u (v := (.bool _)) rfl rfl (pr_neq rfl rfl) ?_
        refine TF.u (v := (.bool _)) rfl rfl (pr_move rfl) ?_
        refine TF.split (dj := 62) rfl (fun hq20 => by
            have hp20 := dF (nT hq20)
            exfalso
            first | omega | exact hp20 rfl | exact hp20 (by decide) | (simp at hp20; done)) ?_
        intro hq20
        have hp20 := dT (nF hq20)
        refine TF.ug (v := (.slice _ _ _)) rfl rfl (wantF_yes rfl rfl rfl hq20) (pr_move rfl) ?_
        refine TF.ug (v := (.int .i64 _)) rfl rfl (wantF_yes rfl rfl rfl hq20) (pr_len rfl Try.underlying25 rfl) ?_
        refine TF.ug (v := (T _)) rfl rfl (wantF_yes rfl rfl rfl hq20) (pr_move rfl) ?_
        refine TF.ug (v := (.int .i64 _)) rfl rfl (wantF_yes rfl rfl rfl hq20) (pr_slen rfl Try.underlying9 rfl) ?_
        refine TF.ug (v := (.bool _)) rfl rfl (wantF_yes rfl rfl rfl hq20) (pr_neq rfl rfl) ?_
        refine TF.u (v := (.bool _)) rfl rfl (pr_pickF rfl hq20 rfl) ?_
        refine TF.nil (nx_then ?_)
        refine cw_cond _ rfl rfl (fun hq22 => by
            have hp22 := dF (nT hq22)
            exfalso
            first | omega | exact hp22 rfl | exact hp22 (by decide) | (simp at hp22; done)) ?_
        intro hq22
        have hp22 := dT (nF hq22)
        refine cw_skip (nx_then ?_)
        refine cw_seq ?_
        refine cw_seq ?_
        -- region 17 law.go:108
        refine cw_region (clf [.U]) [0] rfl (by kernel_rfl) (by decide) ?_
        refine TF.u (v := (.int .i64 _)) rfl rfl (pr_assign rfl) ?_
        refine TF.nil (nx_then ?_)
        refine cw_block ?_
        refine cw_loop (fun m f w => ∃ (g_ : Nat → Value) (i : Nat) (xs : List UInt8), m = n17 - i ∧ f = (upd (upd (upd (upd (upd g_ 0 (T b)) 3 (.slice (some ⟨bk5, 0, none⟩) b.length (b.length + 8))) 4 (.slice A7 n7 c7)) 7 (.slice A17 n17 c17)) 9 (.int .i64 (i : Int))) ∧ Sat [] w0 w [cOwnB 5 A17 n17 c17 xs, cOwnB 5 A7 n7 c7 (sealS b), cBlk bk5 5 (u8s (b ++ List.replicate 8 0))] ∧ i ≤ n17 ∧ xs.length = n17) (n17 - 0) ?_ ?_
        ·
          exact ⟨_, 0, _, rfl, (cutS (cutS (cutS (cutS (cutS rfl rfl) rfl) rfl) rfl) rfl), H, Nat.zero_le _, (H.rdB (k := 0) rfl).length⟩
        ·
          clear H
          rintro m_ f_ w ⟨g_, i, xs, rfl, rfl, H, hi, hx1⟩
          refine cw_seq ?_
          refine cw_seq ?_
          -- region 18 law.go:108
          refine cw_region (clf [.U, .U, .U, .U]) [0, 1, 2, 3] rfl (by kernel_rfl) (by decide) ?_
          refine TF.u (v := (.int .i64 _)) rfl rfl (pr_move rfl) ?_
          refine TF.u (v := (.slice _ _ _)) rfl rfl (pr_move rfl) ?_
          refine TF.u (v := (.int .i64 _)) rfl rfl (pr_len rfl Try.underlying25 rfl) ?_
          refine TF.u (v := (.bool _)) rfl rfl (pr_lss rfl rfl) ?_
          refine TF.nil (nx_then ?_)
          refine cw_cond _ rfl rfl (fun hq24 => ?_) (fun hq24 => ?_)
          ·
            have hp24 := dT hq24
            refine cw_skip (nx_then ?_)
            refine cw_seq ?_
            refine cw_block ?_
            -- region 20 law.go:109
            refine cw_region (clf [.U, .U, .U, .X, .U, .U, .X]) [0, 1, 2, 3, 4, 5, 6] rfl (by kernel_rfl) (by decide) ?_
            refine TF.u (v := (.slice _ _ _)) rfl rfl (pr_move rfl) ?_
            refine TF.u (v := (.int .i64 _)) rfl rfl (pr_move rfl) ?_
            refine TF.idxB (H.rd (k := 0) rfl) rfl rfl (wantF_none rfl) Try.underlying25 (Try.ty5.s) rfl rfl (by omega) (by omega) ?_
            intro p25 hc26
            refine TF.load (v := (.int .u8 _)) rfl rfl (wantF_none rfl) Try.underlying5 rfl rfl hc26 ?_
            refine TF.u (v := (.int .u8 _)) rfl rfl (pr_xor rfl rfl (x8 _ 255)) ?_
            obtain ⟨g29, rfl⟩ := H.ownSome (k := 0) rfl (by omega)
            refine TF.u (v := (.pointer (some ⟨g29, _, none⟩))) rfl rfl (pr_idxO (b := g29) (o' := _) Try.underlying25 (Try.ty5.s) rfl rfl (by omega) (by omega) (Nat.mul_one _)) ?_
            refine TF.storeO (v := (u8 _)) (q := 0) H rfl rfl rfl (wantF_none rfl) (Try.ty5.s) rfl rfl rfl (by simp; omega) ?_
            clear H
            intro w ho30 H
            replace H : Sat _ _ _ [_, _, _] := H
            rw [u8s_set] at H
            refine TF.nil (nx_block (nx_then ?_))
            -- region 19 law.go:108
            refine cw_region (clf [.U, .U, .U]) [0, 1, 2] rfl (by kernel_rfl) (by decide) ?_
            refine TF.u (v := (.int .i64 _)) rfl rfl (pr_move rfl) ?_
            refine TF.u (v := (.int .i64 _)) rfl rfl (pr_add rfl rfl (IntWalk.i64_in _ (by omega))) ?_
            refine TF.u (v := (.int .i64 _)) rfl rfl (pr_assign rfl) ?_
            refine TF.nil (nx_loop (m' := n17 - (i + 1)) (by omega) ?_)
            exact ⟨_, i + 1, _, rfl, (cutS (cutS (cutS (cutS (cutS rfl rfl) rfl) rfl) rfl) rfl), H, by omega, by simpa using hx1⟩
          ·
            have hp24 := dF hq24
            refine cw_exit (ex_then (ex_then (ex_here (nx_then ?_))))
            refine cw_seq ?_
            -- region 21 law.go:111
            refine cw_region (clf [.U, .X, .U, .U, .U, .U, .U]) [0, 1, 2, 3, 4, 5, 6] rfl (by kernel_rfl) (by decide) ?_
            refine TF.u (v := (.slice _ _ _)) rfl rfl (pr_move rfl) ?_
            refine TF.call (args := [(.slice _ _ _)]) Try.fn15 rfl rfl (wantF_none rfl) rfl (open_ok _ _ _ _ _ (H.rd (k := 1) rfl) (by first | omega | (simp only [List.length_append]; omega))) ?_
            rintro e_ w ⟨A31, n31, c31, rfl, hn31⟩
            refine ⟨_, rfl, ?_⟩
            replace H := H.newS hn31
            refine TF.u (v := (.tuple _)) rfl rfl (pr_move rfl) ?_
            refine TF.u (v := (.slice _ _ _)) rfl rfl (pr_extract (vs := _) rfl rfl) ?_
            refine TF.u (v := (.int .i64 _)) rfl rfl (pr_extract (vs := _) rfl rfl) ?_
            refine TF.u (v := (.slice _ _ _)) rfl rfl (pr_assign rfl) ?_
            refine TF.u (v := (.int .i64 _)) rfl rfl (pr_assign rfl) ?_
            refine TF.nil (nx_then ?_)
            refine cw_seq ?_
            -- region 22 law.go:112
            refine cw_region (clf [.U, .U, .U, .U, .X, .U, .U, .U, .U, .U, .X, .U, .U, .U, .U]) [0, 1, 2, 3, 4, 5, 6, 7, 8, 9, 10, 11, 12, 13, 14] rfl (by kernel_rfl) (by decide) ?_
            rw [open_seal] at H ⊢
            have hroom := (H.blk (k := 3) rfl).rdB (o := 0) (m := b.length) (c := b.length + 8) (ds := b) (by simp) (by omega) (by unfold maxLen; omega) (by simp)
            refine TF.u (v := (.int .i64 _)) rfl rfl (pr_move rfl) ?_
            refine TF.u (v := (.bool _)) rfl rfl (pr_eql rfl rfl) ?_
            refine TF.u (v := (.bool _)) rfl rfl (pr_move rfl) ?_
            refine TF.split (dj := 88) rfl ?_ (fun hq34 => by
                have hp34 := dF hq34
                exfalso
                first | omega | exact hp34 rfl | exact hp34 (by decide) | (simp at hp34; done))
            intro hq34
            have hp34 := dT hq34
            refine TF.ug (v := (.slice _ _ _)) rfl rfl (wantF_yes rfl rfl rfl hq34) (pr_move rfl) ?_
            refine TF.tostr (H.rd (k := 0) rfl) rfl rfl (wantF_yes rfl rfl rfl hq34) Try.underlying25 Try.underlying5 Try.underlying9 rfl ?_
            refine TF.ug (v := (T _)) rfl rfl (wantF_yes rfl rfl rfl hq34) (pr_move rfl) ?_
            refine TF.ug (v := (.bool _)) rfl rfl (wantF_yes rfl rfl rfl hq34) (pr_seql rfl rfl) ?_
            refine TF.u (v := (.bool _)) rfl rfl (pr_pickT rfl hq34 rfl) ?_
            refine TF.u (v := (.bool _)) rfl rfl (pr_move rfl) ?_
            refine TF.split (dj := 94) rfl ?_ (fun hq36 => by
                have hp36 := eF hq36
                exfalso
                first | omega | exact hp36 rfl | exact hp36 (by decide) | (simp at hp36; done))
            intro hq36
            have hp36 := eT hq36
            refine TF.ug (v := (.slice _ _ _)) rfl rfl (wantF_yes rfl rfl rfl hq36) (pr_move rfl) ?_
            refine TF.tostr hroom rfl rfl (wantF_yes rfl rfl rfl hq36) Try.underlying25 Try.underlying5 Try.underlying9 rfl ?_
            refine TF.ug (v := (T _)) rfl rfl (wantF_yes rfl rfl rfl hq36) (pr_move rfl) ?_
            refine TF.ug (v := (.bool _)) rfl rfl (wantF_yes rfl rfl rfl hq36) (pr_seql rfl rfl) ?_
            refine TF.u (v := (.bool _)) rfl rfl (pr_pickT rfl hq36 rfl) ?_
            refine TF.u (v := (.bool _)) rfl rfl (pr_assign rfl) ?_
            refine TF.nil (nx_then ?_)
            refine cw_ret (fin1 (v := (.bool _)) Try.results9 rfl rfl ?_)
            exact ⟨by simp, H.base⟩
end Go.Proofs.Ytmfepnngjpmljaa
namespace Go.Proofs.Ytmfepnngjpmljaa
open Go.ChangeShapes Go.WideShapes Go.ChangeAt Go.RowKit
open Go.ChangeMaps (open_string shut_string)
theorem sumKeeps_own : ownKnob Try.prog.godebug = none := by kernel_rfl
set_option maxRecDepth 100000 in
theorem sumKeeps_lifted (os : Os) (started : os.Started) (H : Type) (enc : TypeId × Value → H) :
    ReturnsInHanded {} Try.checked os 9 .any (Rows.sumKeepsSpec.pre6 enc Try.prog Try.f9 Rows.sumKeepsRow.domain false) (Rows.sumKeepsSpec.post enc Try.prog Try.f9 false true false false) := by
  refine returnsInHanded_of_change_sized (C := Try.checked) sumKeeps_own started (by kernel_rfl) Try.func9
    (ChangeSpec.witness6 (enc := enc) (C := Try.checked) false ⟨#[], #[.string .empty], []⟩ 8 (by kernel_rfl) (by kernel_rfl) (by kernel_rfl) (by kernel_rfl)) ?_
  intro W base args ds gs before hval0 hW hcnd hsz0 _
  have hval : ∀ (j : Nat) t v, Try.f9.params[j]? = some t → args[j]? = some v → Value.okWide Try.prog W .any base t v := hval0
  have hW' := hW
  obtain ⟨p, q, hA0, hV, rfl, hfz, hnd⟩ := hW
  have hA : DataW.TrodAll enc Try.prog W 0 (fun _ => true) true Try.f9.params.toList args.toList ds p := hA0
  have hsz : (DataW.weightsEach Try.prog (Try.f9.params.toList ++ Rows.sumKeepsSpec.plain.varTypes Try.prog) (ds ++ gs)).all (· ≤ reachBytes) = true := hsz0
  rw [Try.params9] at hA hval hsz
  obtain ⟨v0, vs0, d0, ds0, p0, q0, hargs, rfl, rfl, h0, r0⟩ := trodAll_cons hA
  obtain ⟨rfl, rfl, rfl⟩ := trodAll_nil r0
  obtain rfl : args = #[v0] := by cases args; simp_all
  obtain ⟨rfl, rfl⟩ := trodVars_none hV
  obtain ⟨a0, rfl, rfl, rfl, m0⟩ := open_string Try.underlying9 (hval 0 9 v0 rfl rfl) h0
  have z0 : a0.data.toList.length ≤ 140737488351232 := sized_string hsz (j := 0) rfl rfl
  clear hA0 hval0
  refine (SumKeeps_ok a0.data.toList W z0).mono fun e W' ⟨he, bel⟩ => ?_
  subst he
  exact ⟨_, rfl, _, _, _, [], _, [], hW', trodAll_mk1 (shut_bool Try.underlying4 _), (trodAll_cons_mk (shut_string Try.underlying9 m0) trodAll_mk0), rfl, bel.frame _, fun h => by cases h⟩
theorem sumKeeps_holds : Rows.SumKeepsSaid :=
  OpenClaim.holds_of_wide 9 Try.f9 rfl rfl rfl rfl rfl rfl rfl ⟨rfl, rfl, rfl, rfl, rfl⟩ rfl rfl rfl rfl rfl (by kernel_rfl) Try.func9 (by kernel_rfl)
    (of_decide_eq_true (by kernel_rfl)) (by unfold Func.isWrapper; first | (rw [if_pos (by decide +kernel)]; kernel_rfl) | (rw [if_neg (by decide +kernel)]; exact ⟨rfl, rfl⟩))
    (fun os started H enc _ => sumKeeps_lifted os started H enc)
end Go.Proofs.Ytmfepnngjpmljaa
