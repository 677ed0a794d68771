/- The given statement Rows.TapePartsSaid: quayside/quaysidelaw08.TapeParts returns true for all arguments, and leaves its arguments as they were. No further condition. -/
import Derived.Test.YtdanpfiombbdoaaFns1
import Derived.Test.YtdanpfiombbdoaaRows
import Derived.Test.YtdanpfiombbdoaaArgs
import Derived.WalkKit
import Derived.ProofKit
import Derived.OpenShut
import Derived.ShutString
import Derived.ChangeOld
import Derived.Below
import Derived.SizedLaws
import Derived.JoinedCond
set_option linter.unusedSimpArgs false
set_option linter.unusedVariables false
set_option maxRecDepth 10000
namespace Go.Proofs.Ytdanpfiombbdoaa
open Go.Q Go.RowKit Go.Proofs
theorem Try.fn10 : Fnc Try.prog 10 Try.f10 := ⟨Try.func10, by kernel_rfl, by kernel_rfl⟩
theorem Try.fn14 : Fnc Try.prog 14 Try.f14 := ⟨Try.func14, by kernel_rfl, by kernel_rfl⟩
theorem Try.fn15 : Fnc Try.prog 15 Try.f15 := ⟨Try.func15, by kernel_rfl, by kernel_rfl⟩
theorem TapeParts_ok (A_parts : Option Addr) (n_parts c_parts : Nat) (parts : List (List UInt8)) (keep : Int) (w0 : World) (h_parts : RdS w0 1 A_parts n_parts c_parts (parts.flatMap fun s => [T s])) (hl_parts : parts.length = n_parts) (hok_parts : ∀ s ∈ parts, s.length ≤ 9223372036854775807) (hkeep1 : -9223372036854775808 ≤ keep) (hkeep2 : keep ≤ 9223372036854775807) :
    Calls Try.prog 4 #[.slice A_parts n_parts c_parts, .int .i64 keep] w0 fun e w => e = .returned (.bool true) ∧ Below w0.heap.size w0 w := by
  refine enter (args := [.slice A_parts n_parts c_parts, .int .i64 keep]) Try.func4 rfl Try.ntmps4 rfl ?_
  have H := Sat.start w0
  refine cw_seq ?_
  -- region 0 law.go:211
  refine cw_region (clf [.U]) [0] rfl (by kernel_rfl) (by decide) ?_
  refine TF.u (v := (.bool _)) rfl rfl (pr_assign rfl) ?_
  refine TF.nil (nx_then ?_)
  refine cw_seq ?_
  refine cw_seq ?_
  -- region 1 law.go:212
  refine cw_region (clf [.X, .U, .U, .U, .U, .U, .U]) [0, 1, 2, 3, 4, 5, 6] rfl (by kernel_rfl) (by decide) ?_
  refine TF.call (args := []) Try.fn10 rfl rfl (wantF_none rfl) rfl (awake_ok _) ?_
  rintro e_ w ⟨rfl, hb1⟩
  refine ⟨_, rfl, ?_⟩
  replace H := H.below hb1
  refine TF.u (v := (.bool _)) rfl rfl (pr_not rfl) ?_
  refine TF.u (v := (.bool _)) rfl rfl (pr_move rfl) ?_
  refine TF.ug (v := (.slice _ _ _)) rfl rfl (wantF_yes rfl rfl rfl rfl) (pr_move rfl) ?_
  refine TF.ug (v := (.int .i64 _)) rfl rfl (wantF_yes rfl rfl rfl rfl) (pr_len rfl Try.underlying30 rfl) ?_
  refine TF.ug (v := (.bool _)) rfl rfl (wantF_yes rfl rfl rfl rfl) (pr_gtr rfl rfl) ?_
  refine TF.u (v := (.bool _)) rfl rfl (pr_pickF rfl rfl rfl) ?_
  refine TF.nil (nx_then ?_)
  refine cw_cond _ rfl rfl (fun hq3 => ?_) (fun hq3 => ?_)
  ·
    have hp3 := dT hq3
    refine cw_seq ?_
    -- region 2 law.go:213
    refine cw_region (clf [.X, .U]) [0, 1] rfl (by kernel_rfl) (by decide) ?_
    refine TF.call (args := []) Try.fn10 rfl rfl (wantF_none rfl) rfl (awake_ok _) ?_
    rintro e_ w ⟨rfl, hb4⟩
    refine ⟨_, rfl, ?_⟩
    replace H := H.below hb4
    refine TF.u (v := (.bool _)) rfl rfl (pr_assign rfl) ?_
    refine TF.nil (nx_then ?_)
    refine cw_ret (rt_then (fin1 (v := (.bool _)) Try.results4 rfl rfl ?_))
    exact ⟨by simp, H.base⟩
  ·
    have hp3 := dF hq3
    refine cw_skip (nx_then ?_)
    refine cw_seq ?_
    -- region 3 law.go:215
    refine cw_region (clf [.U]) [0] rfl (by kernel_rfl) (by decide) ?_
    refine TF.u (v := (T _)) rfl rfl (pr_assign rfl) ?_
    refine TF.nil (nx_then ?_)
    refine cw_seq ?_
    refine cw_seq ?_
    -- region 4 law.go:216
    refine cw_region (clf [.U, .U, .U]) [0, 1, 2] rfl (by kernel_rfl) (by decide) ?_
    refine TF.u (v := (.slice _ _ _)) rfl rfl (pr_move rfl) ?_
    refine TF.u (v := (.int .i64 _)) rfl rfl (pr_len rfl Try.underlying30 rfl) ?_
    refine TF.u (v := (.int .i64 _)) rfl rfl (pr_move rfl) ?_
    refine TF.nil (nx_then ?_)
    refine cw_block ?_
    refine cw_loop (fun m f w => ∃ (g_ : Nat → Value) (i : Nat), m = n_parts - i ∧ f = (upd (upd (upd (upd (upd g_ 0 (.slice A_parts n_parts c_parts)) 1 (.int .i64 keep)) 5 (T (parts.take i).flatten)) 19 (.int .i64 (n_parts : Int))) 20 (.int .i64 (i : Int))) ∧ Sat [] w0 w [] ∧ (i ≤ n_parts) ∧ (∀ s ∈ parts.take i, s.length ≤ 300) ∧ ((parts.take i).flatten.length ≤ 300 * i)) (n_parts - 0) ?_ ?_
    ·
      exact ⟨_, 0, rfl, (cutS (cutS (cutS (cutS (cutS rfl rfl) rfl) rfl) rfl) rfl), H, Nat.zero_le _, (fun s hs => by simp at hs), by simp⟩
    ·
      clear H
      rintro m_ f_ w ⟨g_, i, rfl, rfl, H, hi, hle, hfl⟩
      refine cw_seq ?_
      -- region 5 law.go:216
      refine cw_region (clf [.U]) [0] rfl (by kernel_rfl) (by decide) ?_
      refine TF.u (v := (.bool _)) rfl rfl (pr_lss rfl rfl) ?_
      refine TF.nil (nx_then ?_)
      refine cw_seq ?_
      refine cw_cond _ rfl rfl (fun hq6 => ?_) (fun hq6 => ?_)
      ·
        have hp6 := dT hq6
        refine cw_skip (nx_then ?_)
        refine cw_seq ?_
        refine cw_block ?_
        refine cw_seq ?_
        -- region 6 law.go:216
        refine cw_region (clf [.U, .U]) [0, 1] rfl (by kernel_rfl) (by decide) ?_
        refine TF.u (v := (.int .i64 _)) rfl rfl (pr_move rfl) ?_
        refine TF.u (v := (.int .i64 _)) rfl rfl (pr_assign rfl) ?_
        refine TF.nil (nx_then ?_)
        refine cw_seq ?_
        refine cw_seq ?_
        -- region 7 law.go:217
        refine cw_region (clf [.U, .U, .U, .X, .U, .U]) [0, 1, 2, 3, 4, 5] rfl (by kernel_rfl) (by decide) ?_
        refine TF.u (v := (.slice _ _ _)) rfl rfl (pr_move rfl) ?_
        refine TF.u (v := (.int .i64 _)) rfl rfl (pr_move rfl) ?_
        obtain ⟨o9, ho9⟩ : ∃ o, parts[i]? = some o := ⟨_, List.getElem?_eq_getElem (by omega)⟩
        have hko9 := hok_parts o9 (List.mem_of_getElem? ho9)
        refine TF.idx (h_parts.below H.base) rfl rfl (wantF_none rfl) Try.underlying30 (Try.ty9.s) rfl rfl (by omega) (by omega) ?_
        intro p7 hc8
        replace hc8 : ∀ j u, j < 1 → ((fun s : List UInt8 => [T s]) o9)[j]? = some u → w.cell? (p7.add j) = some u := fun j u hj hu => hc8 j u hj ((flat_at (fun s : List UInt8 => [T s]) 1 _ (fun _ => rfl) ho9 hj).trans hu)
        refine TF.load (v := (T o9)) rfl rfl (wantF_none rfl) Try.underlying9 rfl rfl (by have h_ := hc8 0 _ (by decide) rfl; rwa [add_zero] at h_) ?_
        refine TF.u (v := (.int .i64 _)) rfl rfl (pr_slen rfl Try.underlying9 rfl) ?_
        refine TF.u (v := (.bool _)) rfl rfl (pr_gtr rfl rfl) ?_
        refine TF.nil (nx_then ?_)
        refine cw_cond _ rfl rfl (fun hq11 => ?_) (fun hq11 => ?_)
        ·
          have hp11 := dT hq11
          refine cw_seq ?_
          -- region 8 law.go:218
          refine cw_region (clf [.U]) [0] rfl (by kernel_rfl) (by decide) ?_
          refine TF.u (v := (.bool _)) rfl rfl (pr_assign rfl) ?_
          refine TF.nil (nx_then ?_)
          refine cw_ret (rt_then (rt_block (rt_then (rt_then (rt_block (rt_then (fin1 (v := (.bool _)) Try.results4 rfl rfl ?_)))))))
          exact ⟨by simp, H.base⟩
        ·
          have hp11 := dF hq11
          refine cw_skip (nx_then ?_)
          -- region 9 law.go:220
          refine cw_region (clf [.U, .U, .U, .U, .X, .U, .U]) [0, 1, 2, 3, 4, 5, 6] rfl (by kernel_rfl) (by decide) ?_
          refine TF.u (v := (T _)) rfl rfl (pr_move rfl) ?_
          refine TF.u (v := (.slice _ _ _)) rfl rfl (pr_move rfl) ?_
          refine TF.u (v := (.int .i64 _)) rfl rfl (pr_move rfl) ?_
          refine TF.idx (h_parts.below H.base) rfl rfl (wantF_none rfl) Try.underlying30 (Try.ty9.s) rfl rfl (by omega) (by omega) ?_
          intro p12 hc13
          replace hc13 : ∀ j u, j < 1 → ((fun s : List UInt8 => [T s]) o9)[j]? = some u → w.cell? (p12.add j) = some u := fun j u hj hu => hc13 j u hj ((flat_at (fun s : List UInt8 => [T s]) 1 _ (fun _ => rfl) ho9 hj).trans hu)
          refine TF.load (v := (T o9)) rfl rfl (wantF_none rfl) Try.underlying9 rfl rfl (by have h_ := hc13 0 _ (by decide) rfl; rwa [add_zero] at h_) ?_
          refine TF.u (v := (T _)) rfl rfl (pr_sadd rfl rfl (by omega)) ?_
          refine TF.u (v := (T _)) rfl rfl (pr_assign rfl) ?_
          refine TF.nil (nx_block (nx_then ?_))
          -- region 10 law.go:216
          refine cw_region (clf [.U, .U]) [0, 1] rfl (by kernel_rfl) (by decide) ?_
          refine TF.u (v := (.int .i64 _)) rfl rfl (pr_add rfl rfl (IntWalk.i64_in _ (by omega))) ?_
          refine TF.u (v := (.int .i64 _)) rfl rfl (pr_move rfl) ?_
          refine TF.nil (nx_loop (m' := n_parts - (i + 1)) (by omega) ?_)
          exact ⟨_, i + 1, rfl, (cutS (cutS (cutS (cutS (cutS rfl rfl) rfl) (by rw [take_snoc (by assumption), List.flatten_append, List.flatten_singleton]; rfl)) rfl) rfl), H, by omega, by rw [take_snoc (by assumption)]; intro s hs; rcases List.mem_append.1 hs with h | h; exact hle s h; simp at h; subst h; omega, by rw [take_snoc (by assumption), List.flatten_append, List.length_append]; simp only [List.flatten_cons, List.flatten_nil, List.append_nil]; omega⟩
      ·
        have hp6 := dF hq6
        refine cw_exit (ex_then (ex_then (ex_here (nx_then ?_))))
        refine cw_seq ?_
        -- region 11 law.go:222
        refine cw_region (clf [.X, .X, .U, .U]) [0, 1, 2, 3] rfl (by kernel_rfl) (by decide) ?_
        have hall : ∀ s ∈ parts, s.length ≤ 300 := fun s hs => hle s (by rw [List.take_of_length_le (by omega)]; exact hs)
        rw [List.take_of_length_le (show parts.length ≤ i by omega)]
        refine TF.call (args := [(.int .i64 _)]) Try.fn11 rfl rfl (wantF_none rfl) rfl (tnew_ok 65536 _ (by omega) (by omega)) ?_
        rintro e_ w ⟨tb15, rfl, hn15, ok15⟩
        refine ⟨_, rfl, ?_⟩
        replace H := H.newC hn15
        replace H : Sat _ _ _ [_] := H
        refine TF.call (args := [(.int .i64 _)]) Try.fn11 rfl rfl (wantF_none rfl) rfl (tnew_ok 65536 _ (by omega) (by omega)) ?_
        rintro e_ w ⟨tb16, rfl, hn16, ok16⟩
        refine ⟨_, rfl, ?_⟩
        replace H := H.newC hn16
        replace H : Sat _ _ _ [_, _] := H
        refine TF.u (v := (.pointer (some ⟨_, 0, none⟩))) rfl rfl (pr_assign rfl) ?_
        refine TF.u (v := (.pointer (some ⟨_, 0, none⟩))) rfl rfl (pr_assign rfl) ?_
        refine TF.nil (nx_then ?_)
        refine cw_seq ?_
        refine cw_seq ?_
        -- region 12 law.go:223
        refine cw_region (clf [.U, .U, .U, .U, .U, .U]) [0, 1, 2, 3, 4, 5] rfl (by kernel_rfl) (by decide) ?_
        refine TF.u (v := (.pointer (some ⟨_, 0, none⟩))) rfl rfl (pr_move rfl) ?_
        refine TF.u (v := (.bool _)) rfl rfl (pr_peql Try.underlying23 rfl rfl) ?_
        refine TF.u (v := (.bool _)) rfl rfl (pr_move rfl) ?_
        refine TF.ug (v := (.pointer (some ⟨_, 0, none⟩))) rfl rfl (wantF_yes rfl rfl rfl rfl) (pr_move rfl) ?_
        refine TF.ug (v := (.bool _)) rfl rfl (wantF_yes rfl rfl rfl rfl) (pr_peql Try.underlying23 rfl rfl) ?_
        refine TF.u (v := (.bool _)) rfl rfl (pr_pickF rfl rfl rfl) ?_
        refine TF.nil (nx_then ?_)
        refine cw_condF (t := _) rfl rfl rfl ?_
        refine cw_skip (nx_then ?_)
        refine cw_seq ?_
        refine cw_seq ?_
        -- region 14 law.go:226
        refine cw_region (clf [.U, .U, .U]) [0, 1, 2] rfl (by kernel_rfl) (by decide) ?_
        have e0 : tNew 65536 = ⟨[], 0, 65536, 0⟩ := by decide
        rw [e0] at H ok15 ok16
        refine TF.u (v := (.slice _ _ _)) rfl rfl (pr_move rfl) ?_
        refine TF.u (v := (.int .i64 _)) rfl rfl (pr_len rfl Try.underlying30 rfl) ?_
        refine TF.u (v := (.int .i64 _)) rfl rfl (pr_move rfl) ?_
        refine TF.nil (nx_then ?_)
        refine cw_block ?_
        refine cw_loop (fun m f w => ∃ (g_ : Nat → Value) (i : Nat), m = n_parts - i ∧ f = (upd (upd (upd (upd (upd (upd (upd g_ 0 (.slice A_parts n_parts c_parts)) 1 (.int .i64 keep)) 5 (T parts.flatten)) 7 (.pointer (some ⟨tb15, 0, none⟩))) 8 (.pointer (some ⟨tb16, 0, none⟩))) 45 (.int .i64 (n_parts : Int))) 46 (.int .i64 (i : Int))) ∧ Sat [] w0 w [cTape 5 44 tb16 ⟨[], 0, 65536, 0⟩, cTape 5 44 tb15 ⟨(parts.take i).flatten, 0, 65536, 0⟩] ∧ (i ≤ n_parts) ∧ (TOk ⟨(parts.take i).flatten, 0, 65536, 0⟩)) (n_parts - 0) ?_ ?_
        ·
          exact ⟨_, 0, rfl, (cutS (cutS (cutS (cutS (cutS (cutS (cutS rfl rfl) rfl) rfl) rfl) rfl) rfl) rfl), H, Nat.zero_le _, ok15⟩
        ·
          clear H
          rintro m_ f_ w ⟨g_, i, rfl, rfl, H, hi, ok15⟩
          have hlen1 := flat_len hall i
          refine cw_seq ?_
          -- region 15 law.go:226
          refine cw_region (clf [.U]) [0] rfl (by kernel_rfl) (by decide) ?_
          refine TF.u (v := (.bool _)) rfl rfl (pr_lss rfl rfl) ?_
          refine TF.nil (nx_then ?_)
          refine cw_seq ?_
          refine cw_cond _ rfl rfl (fun hq18 => ?_) (fun hq18 => ?_)
          ·
            have hp18 := dT hq18
            refine cw_skip (nx_then ?_)
            refine cw_seq ?_
            refine cw_block ?_
            refine cw_seq ?_
            -- region 16 law.go:226
            refine cw_region (clf [.U, .U]) [0, 1] rfl (by kernel_rfl) (by decide) ?_
            refine TF.u (v := (.int .i64 _)) rfl rfl (pr_move rfl) ?_
            refine TF.u (v := (.int .i64 _)) rfl rfl (pr_assign rfl) ?_
            refine TF.nil (nx_then ?_)
            refine cw_seq ?_
            -- region 17 law.go:227
            refine cw_region (clf [.U, .U, .U, .U, .X, .X, .X, .U]) [0, 1, 2, 3, 4, 5, 6, 7] rfl (by kernel_rfl) (by decide) ?_
            refine TF.u (v := (.pointer (some ⟨_, 0, none⟩))) rfl rfl (pr_move rfl) ?_
            refine TF.u (v := (.slice _ _ _)) rfl rfl (pr_move rfl) ?_
            refine TF.u (v := (.int .i64 _)) rfl rfl (pr_move rfl) ?_
            obtain ⟨o21, ho21⟩ : ∃ o, parts[i]? = some o := ⟨_, List.getElem?_eq_getElem (by omega)⟩
            have hko21 := hok_parts o21 (List.mem_of_getElem? ho21)
            have hel := hall o21 (List.mem_of_getElem? ho21)
            refine TF.idx (h_parts.below H.base) rfl rfl (wantF_none rfl) Try.underlying30 (Try.ty9.s) rfl rfl (by omega) (by omega) ?_
            intro p19 hc20
            replace hc20 : ∀ j u, j < 1 → ((fun s : List UInt8 => [T s]) o21)[j]? = some u → w.cell? (p19.add j) = some u := fun j u hj hu => hc20 j u hj ((flat_at (fun s : List UInt8 => [T s]) 1 _ (fun _ => rfl) ho21 hj).trans hu)
            refine TF.load (v := (T o21)) rfl rfl (wantF_none rfl) Try.underlying9 rfl rfl (by have h_ := hc20 0 _ (by decide) rfl; rwa [add_zero] at h_) ?_
            refine TF.tobytes H rfl (Cx.xx rfl) (wantF_none rfl) Try.underlying9 Try.underlying25 Try.underlying5 rfl (by unfold maxLen; first | omega | (simp only [List.length_append]; omega)) ?_
            clear H
            intro Aow22 cow22 w hcapow22 hb23 H
            obtain ⟨F24, hF24, hU24⟩ := H.focus (k := 2) rfl
            refine TF.call (args := [(.pointer (some ⟨_, 0, none⟩)), (.slice _ _ _)]) Try.fn12 rfl rfl (wantF_none rfl) rfl (tappend_ok _ _ _ _ _ _ _ _ hF24 ok15 (H.rd (k := 0) rfl) (by first | omega | (simp only [List.length_append, List.length_cons, List.length_nil]; omega))) ?_
            rintro e_ w ⟨rfl, hu24, ok24⟩
            refine ⟨_, rfl, ?_⟩
            replace H := hU24 hu24
            replace H : Sat _ _ _ [_, _, _] := H
            refine TF.u (v := (.bool _)) rfl rfl (pr_neq rfl rfl) ?_
            refine TF.nil (nx_then ?_)
            refine cw_cond _ rfl rfl (fun hq26 => by
                have hp26 := dF (nT hq26)
                exfalso
                have hb_ := hall _ (List.mem_of_getElem? (by assumption))
                exact hp26 (by rw [tAppend_yes (s := ⟨(parts.take i).flatten, 0, 65536, 0⟩) (b := o21) (by first | omega | (simp only; omega))])) ?_
            intro hq26
            have hp26 := dT (nF hq26)
            refine cw_skip (nx_block (nx_then ?_))
            -- region 19 law.go:226
            refine cw_region (clf [.U, .U]) [0, 1] rfl (by kernel_rfl) (by decide) ?_
            have hb_ := hall _ (List.mem_of_getElem? (by assumption))
            rw [tAppend_yes (s := ⟨(parts.take i).flatten, 0, 65536, 0⟩) (b := o21) (by first | omega | (simp only; omega))] at H ok24
            refine TF.u (v := (.int .i64 _)) rfl rfl (pr_add rfl rfl (IntWalk.i64_in _ (by omega))) ?_
            refine TF.u (v := (.int .i64 _)) rfl rfl (pr_move rfl) ?_
            refine TF.nil (nx_loop (m' := n_parts - (i + 1)) (by omega) ?_)
            exact ⟨_, i + 1, rfl, (cutS (cutS (cutS (cutS (cutS (cutS (cutS rfl rfl) rfl) rfl) rfl) rfl) rfl) rfl), (by rw [take_snoc (by assumption), List.flatten_append, List.flatten_singleton]; exact H.del 0), by omega, by rw [take_snoc (by assumption), List.flatten_append, List.flatten_singleton]; exact ok24⟩
          ·
            have hp18 := dF hq18
            refine cw_exit (ex_then (ex_then (ex_here (nx_then ?_))))
            refine cw_seq ?_
            refine cw_seq ?_
            -- region 20 law.go:231
            refine cw_region (clf [.U, .U, .X, .X, .U, .U, .U, .X, .X, .U, .U, .U, .U, .U, .X, .X, .U, .U, .U]) [0, 1, 2, 3, 4, 5, 6, 7, 8, 9, 10, 11, 12, 13, 14, 15, 16, 17, 18] rfl (by kernel_rfl) (by decide) ?_
            rw [List.take_of_length_le (show parts.length ≤ i by omega)] at H ok15
            have hW : parts.flatten.length ≤ 300 * parts.length := by have h_ := flat_len hall parts.length; rwa [List.take_length] at h_
            have e6 : tAppend ⟨[], 0, 65536, 0⟩ parts.flatten = (⟨parts.flatten, 0, 65536, 0⟩, 0) := by rw [tAppend_yes (by simp only [List.length_nil]; omega)]; rfl
            refine TF.u (v := (.pointer (some ⟨_, 0, none⟩))) rfl rfl (pr_move rfl) ?_
            refine TF.u (v := (T _)) rfl rfl (pr_move rfl) ?_
            refine TF.tobytes H rfl (Cx.xx rfl) (wantF_none rfl) Try.underlying9 Try.underlying25 Try.underlying5 rfl (by unfold maxLen; first | omega | (simp only [List.length_append]; omega)) ?_
            clear H
            intro Aow27 cow27 w hcapow27 hb28 H
            obtain ⟨F29, hF29, hU29⟩ := H.focus (k := 1) rfl
            refine TF.call (args := [(.pointer (some ⟨_, 0, none⟩)), (.slice _ _ _)]) Try.fn12 rfl rfl (wantF_none rfl) rfl (tappend_ok _ _ _ _ _ _ _ _ hF29 ok16 (H.rd (k := 0) rfl) (by first | omega | (simp only [List.length_append, List.length_cons, List.length_nil]; omega))) ?_
            rintro e_ w ⟨rfl, hu29, ok29⟩
            refine ⟨_, rfl, ?_⟩
            replace H := hU29 hu29
            replace H : Sat _ _ _ [_, _, _] := H
            refine TF.u (v := (.bool _)) rfl rfl (pr_neq rfl rfl) ?_
            refine TF.u (v := (.bool _)) rfl rfl (pr_move rfl) ?_
            refine TF.split (dj := 63) rfl (fun hq31 => by
                have hp31 := dF (nT hq31)
                exfalso
                exact hp31 (by rw [e6])) ?_
            intro hq31
            have hp31 := dT (nF hq31)
            refine TF.ug (v := (.pointer (some ⟨_, 0, none⟩))) rfl rfl (wantF_yes rfl rfl rfl hq31) (pr_move rfl) ?_
            obtain ⟨F32, hF32, hU32⟩ := H.focus (k := 2) rfl
            refine TF.call (args := [(.pointer (some ⟨_, 0, none⟩))]) Try.fn13 rfl rfl (wantF_yes rfl rfl rfl hq31) rfl (tbytes_ok _ _ _ _ hF32 ok15) ?_
            rintro e_ w ⟨A32, n32, c32, rfl, hn32⟩
            refine ⟨_, rfl, ?_⟩
            replace H := H.newS hn32
            refine TF.tostr (H.rd (k := 0) rfl) rfl rfl (wantF_yes rfl rfl rfl hq31) Try.underlying25 Try.underlying5 Try.underlying9 rfl ?_
            refine TF.ug (v := (T _)) rfl rfl (wantF_yes rfl rfl rfl hq31) (pr_move rfl) ?_
            refine TF.ug (v := (.bool _)) rfl rfl (wantF_yes rfl rfl rfl hq31) (pr_sneq rfl rfl) ?_
            refine TF.u (v := (.bool _)) rfl rfl (pr_pickF rfl hq31 rfl) ?_
            refine TF.u (v := (.bool _)) rfl rfl (pr_move rfl) ?_
            refine TF.split (dj := 70) rfl (fun hq35 => by
                have hp35 := eF (nT hq35)
                exfalso
                exact hp35 rfl) ?_
            intro hq35
            have hp35 := eT (nF hq35)
            refine TF.ug (v := (.pointer (some ⟨_, 0, none⟩))) rfl rfl (wantF_yes rfl rfl rfl hq35) (pr_move rfl) ?_
            obtain ⟨F36, hF36, hU36⟩ := H.focus (k := 2) rfl
            refine TF.call (args := [(.pointer (some ⟨_, 0, none⟩))]) Try.fn13 rfl rfl (wantF_yes rfl rfl rfl hq35) rfl (tbytes_ok _ _ _ _ hF36 ok29) ?_
            rintro e_ w ⟨A36, n36, c36, rfl, hn36⟩
            refine ⟨_, rfl, ?_⟩
            replace H := H.newS hn36
            refine TF.tostr (H.rd (k := 0) rfl) rfl rfl (wantF_yes rfl rfl rfl hq35) Try.underlying25 Try.underlying5 Try.underlying9 rfl ?_
            refine TF.ug (v := (T _)) rfl rfl (wantF_yes rfl rfl rfl hq35) (pr_move rfl) ?_
            refine TF.ug (v := (.bool _)) rfl rfl (wantF_yes rfl rfl rfl hq35) (pr_sneq rfl rfl) ?_
            refine TF.u (v := (.bool _)) rfl rfl (pr_pickF rfl hq35 rfl) ?_
            refine TF.nil (nx_then ?_)
            refine cw_cond _ rfl rfl (fun hq39 => by
                have hp39 := eF (nT hq39)
                exfalso
                exact hp39 (by rw [e6])) ?_
            intro hq39
            have hp39 := eT (nF hq39)
            refine cw_skip (nx_then ?_)
            refine cw_seq ?_
            -- region 22 law.go:234
            refine cw_region (clf [.U, .U, .X]) [0, 1, 2] rfl (by kernel_rfl) (by decide) ?_
            rw [e6] at H ok29
            refine TF.u (v := (.pointer (some ⟨_, 0, none⟩))) rfl rfl (pr_move rfl) ?_
            refine TF.u (v := (.int .i64 _)) rfl rfl (pr_move rfl) ?_
            obtain ⟨F40, hF40, hU40⟩ := H.focus (k := 4) rfl
            refine TF.call (args := [(.pointer (some ⟨_, 0, none⟩)), (.int .i64 _)]) Try.fn14 rfl rfl (wantF_none rfl) rfl (tcrash_ok _ _ _ _ _ hF40 ok15 (by omega) (by omega)) ?_
            rintro e_ w ⟨rfl, hu40, ok40⟩
            refine ⟨_, rfl, ?_⟩
            replace H := hU40 hu40
            replace H : Sat _ _ _ [_, _, _, _, _] := H
            refine TF.nil (nx_then ?_)
            refine cw_seq ?_
            -- region 23 law.go:235
            refine cw_region (clf [.U, .U, .X]) [0, 1, 2] rfl (by kernel_rfl) (by decide) ?_
            refine TF.u (v := (.pointer (some ⟨_, 0, none⟩))) rfl rfl (pr_move rfl) ?_
            refine TF.u (v := (.int .i64 _)) rfl rfl (pr_move rfl) ?_
            obtain ⟨F41, hF41, hU41⟩ := H.focus (k := 3) rfl
            refine TF.call (args := [(.pointer (some ⟨_, 0, none⟩)), (.int .i64 _)]) Try.fn14 rfl rfl (wantF_none rfl) rfl (tcrash_ok _ _ _ _ _ hF41 ok29 (by omega) (by omega)) ?_
            rintro e_ w ⟨rfl, hu41, ok41⟩
            refine ⟨_, rfl, ?_⟩
            replace H := hU41 hu41
            replace H : Sat _ _ _ [_, _, _, _, _] := H
            refine TF.nil (nx_then ?_)
            refine cw_seq ?_
            -- region 24 law.go:236
            refine cw_drawS H Try.wide_ (clf [.U, .P, .R, .U, .P, .R, .U, .U, .U, .P, .U, .P, .U, .U, .U]) [0, 3, 1, 2, 4, 5, 6, 7, 8, 10, 9, 11, 12, 13, 14] (by kernel_rfl) (by kernel_rfl) ?_
            clear H
            intro w hbr H hB
            refine TF.u (v := (.pointer (some ⟨_, 0, none⟩))) rfl rfl (pr_move rfl) ?_
            refine TF.u (v := (.pointer (some ⟨_, 0, none⟩))) rfl rfl (pr_move rfl) ?_
            obtain ⟨F42, hF42, hU42⟩ := H.focus (k := 4) rfl
            refine TF.callp (args := [(.pointer (some ⟨_, 0, none⟩))]) Try.fn13 rfl rfl (wantF_none rfl) rfl (tbytes_ok _ _ _ _ hF42 ok40) ?_
            rintro e_ w ⟨A42, n42, c42, rfl, hn42⟩
            refine ⟨_, rfl, fun x => Below w.heap.size w x, fun x hx => below_trans (below_trans hB hn42.below) hx, Below.refl _ _, ?_⟩
            replace hB := Below.refl w.heap.size w
            replace H := H.newS hn42
            refine TF.tostrr (RdS.all (H.rd (k := 0) rfl)) rfl rfl (wantF_none rfl) Try.underlying25 Try.underlying5 Try.underlying9 rfl ?_
            obtain ⟨F44, hF44, hU44⟩ := H.focus (k := 4) rfl
            refine TF.callp (args := [(.pointer (some ⟨_, 0, none⟩))]) Try.fn13 rfl rfl (wantF_none rfl) rfl (tbytes_ok _ _ _ _ hF44 ok41) ?_
            rintro e_ w ⟨A44, n44, c44, rfl, hn44⟩
            refine ⟨_, rfl, fun x => Below w.heap.size w x, fun x hx => below_trans (below_trans hB hn44.below) hx, Below.refl _ _, ?_⟩
            replace hB := Below.refl w.heap.size w
            replace H := H.newS hn44
            refine TF.tostrr (RdS.all (H.rd (k := 0) rfl)) rfl rfl (wantF_none rfl) Try.underlying25 Try.underlying5 Try.underlying9 rfl ?_
            refine TF.u (v := (.bool _)) rfl rfl (pr_seql rfl rfl) ?_
            refine TF.u (v := (.bool _)) rfl rfl (pr_move rfl) ?_
            refine TF.split (dj := 90) rfl ?_ (fun hq47 => by
                have hp47 := eF hq47
                exfalso
                exact hp47 rfl)
            intro hq47
            have hp47 := eT hq47
            refine TF.ug (v := (.pointer (some ⟨_, 0, none⟩))) rfl rfl (wantF_yes rfl rfl rfl hq47) (pr_move rfl) ?_
            refine TF.ug (v := (.pointer (some ⟨_, 0, none⟩))) rfl rfl (wantF_yes rfl rfl rfl hq47) (pr_move rfl) ?_
            obtain ⟨F49, hF49, hU49⟩ := H.focus (k := 6) rfl
            refine TF.callp (args := [(.pointer (some ⟨_, 0, none⟩))]) Try.fn15 rfl rfl (wantF_yes rfl rfl rfl hq47) rfl (tsynced_ok _ _ _ _ hF49 ok40) ?_
            rintro e_ w ⟨rfl, hb48⟩
            refine ⟨_, rfl, fun x => Below w.heap.size w x, fun x hx => below_trans (below_trans hB hb48) hx, Below.refl _ _, ?_⟩
            replace hB := Below.refl w.heap.size w
            replace H := H.below hb48
            obtain ⟨F51, hF51, hU51⟩ := H.focus (k := 5) rfl
            refine TF.callp (args := [(.pointer (some ⟨_, 0, none⟩))]) Try.fn15 rfl rfl (wantF_yes rfl rfl rfl hq47) rfl (tsynced_ok _ _ _ _ hF51 ok41) ?_
            rintro e_ w ⟨rfl, hb50⟩
            refine ⟨_, rfl, fun x => Below w.heap.size w x, fun x hx => below_trans (below_trans hB hb50) hx, Below.refl _ _, ?_⟩
            replace hB := Below.refl w.heap.size w
            replace H := H.below hb50
            refine TF.ug (v := (.bool _)) rfl rfl (wantF_yes rfl rfl rfl hq47) (pr_eql rfl rfl) ?_
            refine TF.u (v := (.bool _)) rfl rfl (pr_pickT rfl hq47 rfl) ?_
            refine TF.u (v := (.bool _)) rfl rfl (pr_assign rfl) ?_
            clear hB
            refine TF.nil (nx_then ?_)
            refine cw_ret (fin1 (v := (.bool _)) Try.results4 rfl rfl ?_)
            exact ⟨by simp, H.base⟩
end Go.Proofs.Ytdanpfiombbdoaa
namespace Go.Proofs.Ytdanpfiombbdoaa
open Go.ChangeShapes Go.WideShapes Go.ChangeAt Go.RowKit
open Go.ChangeMaps (open_string shut_string)
theorem tapeParts_own : ownKnob Try.prog.godebug = none := by kernel_rfl
theorem tapeParts_laid : laidOutB Try.prog = true := by kernel_rfl
set_option maxRecDepth 100000 in
theorem tapeParts_lifted (os : Os) (started : os.Started) (H : Type) (enc : TypeId × Value → H) :
    ReturnsInHanded {} Try.checked os 4 .any (Rows.tapePartsSpec.pre6 enc Try.prog Try.f4 Rows.tapePartsRow.domain false) (Rows.tapePartsSpec.post enc Try.prog Try.f4 false true false false) := by
  refine returnsInHanded_of_change_sized (C := Try.checked) tapeParts_own started (by kernel_rfl) Try.func4
    (ChangeSpec.witness6 (enc := enc) (C := Try.checked) false ⟨#[], #[.slice none 0 0, .int .i64 0], []⟩ 8 (by kernel_rfl) (by kernel_rfl) (by kernel_rfl) (by kernel_rfl)) ?_
  intro W base args ds gs before hval0 hW hcnd hsz0 _
  have hval : ∀ (j : Nat) t v, Try.f4.params[j]? = some t → args[j]? = some v → Value.okWide Try.prog W .any base t v := hval0
  have hW' := hW
  obtain ⟨p, q, hA0, hV, rfl, hfz, hnd⟩ := hW
  have hA : DataW.TrodAll enc Try.prog W 0 (fun _ => true) true Try.f4.params.toList args.toList ds p := hA0
  have hsz : (DataW.weightsEach Try.prog (Try.f4.params.toList ++ Rows.tapePartsSpec.plain.varTypes Try.prog) (ds ++ gs)).all (· ≤ reachBytes) = true := hsz0
  rw [Try.params4] at hA hval hsz
  obtain ⟨v0, vs0, d0, ds0, p0, q0, hargs, rfl, rfl, h0, r0⟩ := trodAll_cons hA
  obtain ⟨v1, vs1, d1, ds1, p1, q1, rfl, rfl, rfl, h1, r1⟩ := trodAll_cons r0
  obtain ⟨rfl, rfl, rfl⟩ := trodAll_nil r1
  obtain rfl : args = #[v0, v1] := by cases args; simp_all
  obtain ⟨rfl, rfl⟩ := trodVars_none hV
  have k0 := h0
  have lt0 : ∀ x ∈ p0, x.block < W.heap.size := by obtain ⟨m, hm⟩ := k0; exact DataW.trod_lt m _ _ _ hm
  obtain ⟨fu0, hf0⟩ := h0
  obtain ⟨A0, n0, c0, rfl⟩ := okWide_slice Try.underlying30 (hval 0 30 v0 rfl rfl)
  obtain ⟨A0', n0', c0', l0, he0, hr0, hl0, ho0⟩ := Go.Q.open_slice (sz := 1) (fun s : List UInt8 => [Go.Q.T s]) (fun s => s.length ≤ 9223372036854775807) Try.underlying30 (by kernel_rfl) (fun _ _ _ h => Go.Q.open_str Try.underlying9 h) (fun _ => rfl) hf0
  obtain ⟨rfl, rfl, rfl⟩ : A0 = A0' ∧ n0 = n0' ∧ c0 = c0' := by simpa [Value.cells] using he0
  obtain ⟨a1, rfl, rfl, rfl, m1⟩ := open_int Try.underlying3 (hval 1 3 v1 rfl rfl) h1
  have z1 := bounds_i64 m1
  clear hA0 hval0
  refine (TapeParts_ok A0 n0 c0 l0 a1 W hr0 hl0 ho0 z1.1 z1.2).mono fun e W' ⟨he, bel⟩ => ?_
  subst he
  exact ⟨_, rfl, _, _, _, [], _, [], hW', trodAll_mk1 (shut_bool Try.underlying4 _), (trodAll_cons_mk (Below.trod tapeParts_laid (by kernel_rfl) (of_decide_eq_true (by kernel_rfl)) k0 bel lt0) (trodAll_cons_mk (shut_int Try.underlying3 m1) trodAll_mk0)), rfl, bel.frame _, fun h => by cases h⟩
theorem tapeParts_holds : Rows.TapePartsSaid :=
  OpenClaim.holds_of_wide 4 Try.f4 rfl rfl rfl rfl rfl rfl rfl ⟨rfl, rfl, rfl, rfl, rfl⟩ rfl rfl rfl rfl rfl (by kernel_rfl) Try.func4 (by kernel_rfl)
    (of_decide_eq_true (by kernel_rfl)) (by unfold Func.isWrapper; first | (rw [if_pos (by decide +kernel)]; kernel_rfl) | (rw [if_neg (by decide +kernel)]; exact ⟨rfl, rfl⟩))
    (fun os started H enc _ => tapeParts_lifted os started H enc)
end Go.Proofs.Ytdanpfiombbdoaa
