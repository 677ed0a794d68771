/- The given statement Rows.TapeStandsSaid: quayside/quaysidelaw08.TapeStands returns true for all arguments, and leaves its arguments as they were. No further condition. -/
import Derived.Test.YtdanpfiombbdoaaFns1
import Derived.Test.YtdanpfiombbdoaaRows
import Derived.Test.YtdanpfiombbdoaaArgs
import Derived.WalkKit
import Derived.ProofKit
import Derived.OpenShut
import Derived.ShutString
import Derived.ChangeOld
import Derived.Below
import Derived.SizedLaws
import Derived.JoinedCond
set_option linter.unusedSimpArgs false
set_option linter.unusedVariables false
set_option maxRecDepth 10000
namespace Go.Proofs.Ytdanpfiombbdoaa
open Go.Q Go.RowKit Go.Proofs
theorem Try.fn10 : Fnc Try.prog 10 Try.f10 := ⟨Try.func10, by kernel_rfl, by kernel_rfl⟩
theorem TapeStands_ok (room : Int) (A_fast : Option Addr) (n_fast c_fast : Nat) (fast : List (List UInt8)) (A_more : Option Addr) (n_more c_more : Nat) (more : List (List UInt8)) (keep : Int) (w0 : World) (hroom1 : -9223372036854775808 ≤ room) (hroom2 : room ≤ 9223372036854775807) (h_fast : RdS w0 1 A_fast n_fast c_fast (fast.flatMap fun s => [T s])) (hl_fast : fast.length = n_fast) (hok_fast : ∀ s ∈ fast, s.length ≤ 9223372036854775807) (h_more : RdS w0 1 A_more n_more c_more (more.flatMap fun s => [T s])) (hl_more : more.length = n_more) (hok_more : ∀ s ∈ more, s.length ≤ 9223372036854775807) (hkeep1 : -9223372036854775808 ≤ keep) (hkeep2 : keep ≤ 9223372036854775807) :
    Calls Try.prog 5 #[.int .i64 room, .slice A_fast n_fast c_fast, .slice A_more n_more c_more, .int .i64 keep] w0 fun e w => e = .returned (.bool true) ∧ Below w0.heap.size w0 w := by
  refine enter (args := [.int .i64 room, .slice A_fast n_fast c_fast, .slice A_more n_more c_more, .int .i64 keep]) Try.func5 rfl Try.ntmps5 rfl ?_
  have H := Sat.start w0
  refine cw_seq ?_
  -- region 0 law.go:101
  refine cw_region (clf [.U]) [0] rfl (by kernel_rfl) (by decide) ?_
  refine TF.u (v := (.bool _)) rfl rfl (pr_assign rfl) ?_
  refine TF.nil (nx_then ?_)
  refine cw_seq ?_
  refine cw_seq ?_
  -- region 1 law.go:102
  refine cw_region (clf [.X, .U, .U, .U, .U, .U, .U, .U, .U, .U, .U, .U]) [0, 1, 2, 3, 4, 5, 6, 7, 8, 9, 10, 11] rfl (by kernel_rfl) (by decide) ?_
  refine TF.call (args := []) Try.fn10 rfl rfl (wantF_none rfl) rfl (awake_ok _) ?_
  rintro e_ w ⟨rfl, hb1⟩
  refine ⟨_, rfl, ?_⟩
  replace H := H.below hb1
  refine TF.u (v := (.bool _)) rfl rfl (pr_not rfl) ?_
  refine TF.u (v := (.bool _)) rfl rfl (pr_move rfl) ?_
  refine TF.ug (v := (.slice _ _ _)) rfl rfl (wantF_yes rfl rfl rfl rfl) (pr_move rfl) ?_
  refine TF.ug (v := (.int .i64 _)) rfl rfl (wantF_yes rfl rfl rfl rfl) (pr_len rfl Try.underlying30 rfl) ?_
  refine TF.ug (v := (.bool _)) rfl rfl (wantF_yes rfl rfl rfl rfl) (pr_gtr rfl rfl) ?_
  refine TF.u (v := (.bool _)) rfl rfl (pr_pickF rfl rfl rfl) ?_
  refine TF.u (v := (.bool _)) rfl rfl (pr_move rfl) ?_
  refine TF.split (dj := 23) rfl (fun hq3 => ?_) (fun hq3 => ?_)
  ·
    have hp3 := dT hq3
    refine TF.skip rfl (wantF_no rfl rfl rfl hq3) ?_
    refine TF.skip rfl (wantF_no rfl rfl rfl hq3) ?_
    refine TF.skip rfl (wantF_no rfl rfl rfl hq3) ?_
    refine TF.u (v := (.bool _)) rfl rfl (pr_pickT rfl hq3 rfl) ?_
    refine TF.nil (nx_then ?_)
    refine cw_condT (t := _) rfl rfl rfl ?_
    refine cw_seq ?_
    -- region 2 law.go:103
    refine cw_region (clf [.X, .U]) [0, 1] rfl (by kernel_rfl) (by decide) ?_
    refine TF.call (args := []) Try.fn10 rfl rfl (wantF_none rfl) rfl (awake_ok _) ?_
    rintro e_ w ⟨rfl, hb4⟩
    refine ⟨_, rfl, ?_⟩
    replace H := H.below hb4
    refine TF.u (v := (.bool _)) rfl rfl (pr_assign rfl) ?_
    refine TF.nil (nx_then ?_)
    refine cw_ret (rt_then (fin1 (v := (.bool _)) Try.results5 rfl rfl ?_))
    exact ⟨by simp, H.base⟩
  ·
    have hp3 := dF hq3
    refine TF.ug (v := (.slice _ _ _)) rfl rfl (wantF_yes rfl rfl rfl hq3) (pr_move rfl) ?_
    refine TF.ug (v := (.int .i64 _)) rfl rfl (wantF_yes rfl rfl rfl hq3) (pr_len rfl Try.underlying30 rfl) ?_
    refine TF.ug (v := (.bool _)) rfl rfl (wantF_yes rfl rfl rfl hq3) (pr_gtr rfl rfl) ?_
    refine TF.u (v := (.bool _)) rfl rfl (pr_pickF rfl hq3 rfl) ?_
    refine TF.nil (nx_then ?_)
    refine cw_cond _ rfl rfl (fun hq6 => ?_) (fun hq6 => ?_)
    ·
      have hp6 := dT hq6
      refine cw_seq ?_
      -- region 2 law.go:103
      refine cw_region (clf [.X, .U]) [0, 1] rfl (by kernel_rfl) (by decide) ?_
      refine TF.call (args := []) Try.fn10 rfl rfl (wantF_none rfl) rfl (awake_ok _) ?_
      rintro e_ w ⟨rfl, hb7⟩
      refine ⟨_, rfl, ?_⟩
      replace H := H.below hb7
      refine TF.u (v := (.bool _)) rfl rfl (pr_assign rfl) ?_
      refine TF.nil (nx_then ?_)
      refine cw_ret (rt_then (fin1 (v := (.bool _)) Try.results5 rfl rfl ?_))
      exact ⟨by simp, H.base⟩
    ·
      have hp6 := dF hq6
      refine cw_skip (nx_then ?_)
      refine cw_seq ?_
      -- region 3 law.go:105
      refine cw_region (clf [.U, .X, .U]) [0, 1, 2] rfl (by kernel_rfl) (by decide) ?_
      refine TF.u (v := (.int .i64 _)) rfl rfl (pr_move rfl) ?_
      refine TF.call (args := [(.int .i64 _)]) Try.fn11 rfl rfl (wantF_none rfl) rfl (tnew_ok _ _ (by omega) (by omega)) ?_
      rintro e_ w ⟨tb8, rfl, hn8, ok8⟩
      refine ⟨_, rfl, ?_⟩
      replace H := H.newC hn8
      replace H : Sat _ _ _ [_] := H
      refine TF.u (v := (.pointer (some ⟨_, 0, none⟩))) rfl rfl (pr_assign rfl) ?_
      refine TF.nil (nx_then ?_)
      refine cw_seq ?_
      refine cw_seq ?_
      -- region 4 law.go:106
      refine cw_region (clf [.U, .U]) [0, 1] rfl (by kernel_rfl) (by decide) ?_
      refine TF.u (v := (.pointer (some ⟨_, 0, none⟩))) rfl rfl (pr_move rfl) ?_
      refine TF.u (v := (.bool _)) rfl rfl (pr_peql Try.underlying23 rfl rfl) ?_
      refine TF.nil (nx_then ?_)
      refine cw_condF (t := _) rfl rfl rfl ?_
      refine cw_skip (nx_then ?_)
      refine cw_seq ?_
      -- region 6 law.go:109
      refine cw_region (clf [.U]) [0] rfl (by kernel_rfl) (by decide) ?_
      refine TF.u (v := (.int .i64 _)) rfl rfl (pr_assign rfl) ?_
      refine TF.nil (nx_then ?_)
      refine cw_seq ?_
      refine cw_seq ?_
      -- region 7 law.go:110
      refine cw_region (clf [.U, .U, .U]) [0, 1, 2] rfl (by kernel_rfl) (by decide) ?_
      refine TF.u (v := (.slice _ _ _)) rfl rfl (pr_move rfl) ?_
      refine TF.u (v := (.int .i64 _)) rfl rfl (pr_len rfl Try.underlying30 rfl) ?_
      refine TF.u (v := (.int .i64 _)) rfl rfl (pr_move rfl) ?_
      refine TF.nil (nx_then ?_)
      refine cw_block ?_
      refine cw_loop (fun m f w => ∃ (g_ : Nat → Value) (i : Nat) (s : TS), m = n_fast - i ∧ f = (upd (upd (upd (upd (upd (upd g_ 1 (.slice A_fast n_fast c_fast)) 2 (.slice A_more n_more c_more)) 3 (.int .i64 keep)) 9 (.pointer (some ⟨tb8, 0, none⟩))) 34 (.int .i64 (n_fast : Int))) 35 (.int .i64 (i : Int))) ∧ Sat [] w0 w [cTape 5 44 tb8 s] ∧ (i ≤ n_fast) ∧ (TOk s)) (n_fast - 0) ?_ ?_
      ·
        exact ⟨_, 0, _, rfl, (cutS (cutS (cutS (cutS (cutS (cutS rfl rfl) rfl) rfl) rfl) rfl) rfl), H, Nat.zero_le _, ok8⟩
      ·
        clear H
        rintro m_ f_ w ⟨g_, i, s, rfl, rfl, H, hi, oks⟩
        refine cw_seq ?_
        -- region 8 law.go:110
        refine cw_region (clf [.U]) [0] rfl (by kernel_rfl) (by decide) ?_
        refine TF.u (v := (.bool _)) rfl rfl (pr_lss rfl rfl) ?_
        refine TF.nil (nx_then ?_)
        refine cw_seq ?_
        refine cw_cond _ rfl rfl (fun hq10 => ?_) (fun hq10 => ?_)
        ·
          have hp10 := dT hq10
          refine cw_skip (nx_then ?_)
          refine cw_seq ?_
          refine cw_block ?_
          refine cw_seq ?_
          -- region 9 law.go:110
          refine cw_region (clf [.U, .U]) [0, 1] rfl (by kernel_rfl) (by decide) ?_
          skip
          refine TF.u (v := (.int .i64 _)) rfl rfl (pr_move rfl) ?_
          refine TF.u (v := (.int .i64 _)) rfl rfl (pr_assign rfl) ?_
          refine TF.nil (nx_then ?_)
          refine cw_seq ?_
          refine cw_seq ?_
          -- region 10 law.go:111
          refine cw_region (clf [.U, .U, .U, .X, .U, .U]) [0, 1, 2, 3, 4, 5] rfl (by kernel_rfl) (by decide) ?_
          refine TF.u (v := (.slice _ _ _)) rfl rfl (pr_move rfl) ?_
          refine TF.u (v := (.int .i64 _)) rfl rfl (pr_move rfl) ?_
          obtain ⟨o13, ho13⟩ : ∃ o, fast[i]? = some o := ⟨_, List.getElem?_eq_getElem (by omega)⟩
          have hko13 := hok_fast o13 (List.mem_of_getElem? ho13)
          refine TF.idx (h_fast.below H.base) rfl rfl (wantF_none rfl) Try.underlying30 (Try.ty9.s) rfl rfl (by omega) (by omega) ?_
          intro p11 hc12
          replace hc12 : ∀ j u, j < 1 → ((fun s : List UInt8 => [T s]) o13)[j]? = some u → w.cell? (p11.add j) = some u := fun j u hj hu => hc12 j u hj ((flat_at (fun s : List UInt8 => [T s]) 1 _ (fun _ => rfl) ho13 hj).trans hu)
          refine TF.load (v := (T o13)) rfl rfl (wantF_none rfl) Try.underlying9 rfl rfl (by have h_ := hc12 0 _ (by decide) rfl; rwa [add_zero] at h_) ?_
          refine TF.u (v := (.int .i64 _)) rfl rfl (pr_slen rfl Try.underlying9 rfl) ?_
          refine TF.u (v := (.bool _)) rfl rfl (pr_gtr rfl rfl) ?_
          refine TF.nil (nx_then ?_)
          refine cw_cond _ rfl rfl (fun hq15 => ?_) (fun hq15 => ?_)
          ·
            have hp15 := dT hq15
            refine cw_seq ?_
            -- region 11 law.go:112
            refine cw_region (clf [.U]) [0] rfl (by kernel_rfl) (by decide) ?_
            refine TF.u (v := (.bool _)) rfl rfl (pr_assign rfl) ?_
            refine TF.nil (nx_then ?_)
            refine cw_ret (rt_then (rt_block (rt_then (rt_then (rt_block (rt_then (fin1 (v := (.bool _)) Try.results5 rfl rfl ?_)))))))
            exact ⟨by simp, H.base⟩
          ·
            have hp15 := dF hq15
            refine cw_skip (nx_then ?_)
            -- region 12 law.go:114
            refine cw_region (clf [.U, .U, .U, .U, .X, .X, .X]) [0, 1, 2, 3, 4, 5, 6] rfl (by kernel_rfl) (by decide) ?_
            refine TF.u (v := (.pointer (some ⟨_, 0, none⟩))) rfl rfl (pr_move rfl) ?_
            refine TF.u (v := (.slice _ _ _)) rfl rfl (pr_move rfl) ?_
            refine TF.u (v := (.int .i64 _)) rfl rfl (pr_move rfl) ?_
            refine TF.idx (h_fast.below H.base) rfl rfl (wantF_none rfl) Try.underlying30 (Try.ty9.s) rfl rfl (by omega) (by omega) ?_
            intro p16 hc17
            replace hc17 : ∀ j u, j < 1 → ((fun s : List UInt8 => [T s]) o13)[j]? = some u → w.cell? (p16.add j) = some u := fun j u hj hu => hc17 j u hj ((flat_at (fun s : List UInt8 => [T s]) 1 _ (fun _ => rfl) ho13 hj).trans hu)
            refine TF.load (v := (T o13)) rfl rfl (wantF_none rfl) Try.underlying9 rfl rfl (by have h_ := hc17 0 _ (by decide) rfl; rwa [add_zero] at h_) ?_
            refine TF.tobytes H rfl (Cx.xx rfl) (wantF_none rfl) Try.underlying9 Try.underlying25 Try.underlying5 rfl (by unfold maxLen; first | omega | (simp only [List.length_append]; omega)) ?_
            clear H
            intro Aow19 cow19 w hcapow19 hb20 H
            obtain ⟨F21, hF21, hU21⟩ := H.focus (k := 1) rfl
            refine TF.call (args := [(.pointer (some ⟨_, 0, none⟩)), (.slice _ _ _)]) Try.fn12 rfl rfl (wantF_none rfl) rfl (tappend_ok _ _ _ _ _ _ _ _ hF21 oks (H.rd (k := 0) rfl) (by first | omega | (simp only [List.length_append, List.length_cons, List.length_nil]; omega))) ?_
            rintro e_ w ⟨rfl, hu21, ok21⟩
            refine ⟨_, rfl, ?_⟩
            replace H := hU21 hu21
            replace H : Sat _ _ _ [_, _] := H
            refine TF.nil (nx_block (nx_then ?_))
            -- region 13 law.go:110
            refine cw_region (clf [.U, .U]) [0, 1] rfl (by kernel_rfl) (by decide) ?_
            refine TF.u (v := (.int .i64 _)) rfl rfl (pr_add rfl rfl (IntWalk.i64_in _ (by omega))) ?_
            refine TF.u (v := (.int .i64 _)) rfl rfl (pr_move rfl) ?_
            refine TF.nil (nx_loop (m' := n_fast - (i + 1)) (by omega) ?_)
            exact ⟨_, i + 1, _, rfl, (cutS (cutS (cutS (cutS (cutS (cutS rfl rfl) rfl) rfl) rfl) rfl) rfl), (H.del 0), by omega, ok21⟩
        ·
          have hp10 := dF hq10
          refine cw_exit (ex_then (ex_then (ex_here (nx_then ?_))))
          refine cw_seq ?_
          refine cw_seq ?_
          -- region 14 law.go:116
          refine cw_region (clf [.U, .X, .U]) [0, 1, 2] rfl (by kernel_rfl) (by decide) ?_
          skip
          refine TF.u (v := (.pointer (some ⟨_, 0, none⟩))) rfl rfl (pr_move rfl) ?_
          obtain ⟨F22, hF22, hU22⟩ := H.focus (k := 0) rfl
          refine TF.call (args := [(.pointer (some ⟨_, 0, none⟩))]) Try.fn16 rfl rfl (wantF_none rfl) rfl (tsync_ok _ _ _  _ hF22 oks ) ?_
          rintro e_ w ⟨rfl, hu22, ok22⟩
          refine ⟨_, rfl, ?_⟩
          replace H := hU22 hu22
          replace H : Sat _ _ _ [_] := H
          refine TF.u (v := (.bool _)) rfl rfl (pr_neq rfl rfl) ?_
          refine TF.nil (nx_then ?_)
          refine cw_cond _ rfl rfl (fun hq24 => by
              have hp24 := dF (nT hq24)
              exfalso
              first | omega | exact hp24 rfl | exact hp24 (by decide) | (simp at hp24; done) | (simp at hp24; omega)) ?_
          intro hq24
          have hp24 := dT (nF hq24)
          refine cw_skip (nx_then ?_)
          refine cw_seq ?_
          -- region 16 law.go:119
          refine cw_region (clf [.U, .X, .U]) [0, 1, 2] rfl (by kernel_rfl) (by decide) ?_
          refine TF.u (v := (.pointer (some ⟨_, 0, none⟩))) rfl rfl (pr_move rfl) ?_
          obtain ⟨F26, hF26, hU26⟩ := H.focus (k := 0) rfl
          refine TF.call (args := [(.pointer (some ⟨_, 0, none⟩))]) Try.fn17 rfl rfl (wantF_none rfl) rfl (tlen_ok _ _ _ _ hF26 ok22) ?_
          rintro e_ w ⟨rfl, hb25⟩
          refine ⟨_, rfl, ?_⟩
          replace H := H.below hb25
          refine TF.u (v := (.int .i64 _)) rfl rfl (pr_assign rfl) ?_
          refine TF.nil (nx_then ?_)
          refine cw_seq ?_
          refine cw_seq ?_
          -- region 17 law.go:120
          refine cw_region (clf [.U, .U, .U]) [0, 1, 2] rfl (by kernel_rfl) (by decide) ?_
          refine TF.u (v := (.slice _ _ _)) rfl rfl (pr_move rfl) ?_
          refine TF.u (v := (.int .i64 _)) rfl rfl (pr_len rfl Try.underlying30 rfl) ?_
          refine TF.u (v := (.int .i64 _)) rfl rfl (pr_move rfl) ?_
          refine TF.nil (nx_then ?_)
          refine cw_block ?_
          refine cw_loop (fun m f w => ∃ (g_ : Nat → Value) (i : Nat) (s2 : TS), m = n_more - i ∧ f = (upd (upd (upd (upd (upd (upd g_ 2 (.slice A_more n_more c_more)) 3 (.int .i64 keep)) 9 (.pointer (some ⟨tb8, 0, none⟩))) 10 (.int .i64 ((tSync s).bs.length : Int))) 58 (.int .i64 (n_more : Int))) 59 (.int .i64 (i : Int))) ∧ Sat [] w0 w [cTape 5 44 tb8 s2] ∧ (i ≤ n_more) ∧ (TOk s2) ∧ (s2.fast = (tSync s).bs.length)) (n_more - 0) ?_ ?_
          ·
            exact ⟨_, 0, _, rfl, (cutS (cutS (cutS (cutS (cutS (cutS rfl rfl) rfl) rfl) rfl) rfl) rfl), H, Nat.zero_le _, ok22, rfl⟩
          ·
            clear H
            rintro m_ f_ w ⟨g_, i, s2, rfl, rfl, H, hi, oks2, hfN⟩
            refine cw_seq ?_
            -- region 18 law.go:120
            refine cw_region (clf [.U]) [0] rfl (by kernel_rfl) (by decide) ?_
            refine TF.u (v := (.bool _)) rfl rfl (pr_lss rfl rfl) ?_
            refine TF.nil (nx_then ?_)
            refine cw_seq ?_
            refine cw_cond _ rfl rfl (fun hq28 => ?_) (fun hq28 => ?_)
            ·
              have hp28 := dT hq28
              refine cw_skip (nx_then ?_)
              refine cw_seq ?_
              refine cw_block ?_
              refine cw_seq ?_
              -- region 19 law.go:120
              refine cw_region (clf [.U, .U]) [0, 1] rfl (by kernel_rfl) (by decide) ?_
              skip
              refine TF.u (v := (.int .i64 _)) rfl rfl (pr_move rfl) ?_
              refine TF.u (v := (.int .i64 _)) rfl rfl (pr_assign rfl) ?_
              refine TF.nil (nx_then ?_)
              refine cw_seq ?_
              refine cw_seq ?_
              -- region 20 law.go:121
              refine cw_region (clf [.U, .U, .U, .X, .U, .U]) [0, 1, 2, 3, 4, 5] rfl (by kernel_rfl) (by decide) ?_
              refine TF.u (v := (.slice _ _ _)) rfl rfl (pr_move rfl) ?_
              refine TF.u (v := (.int .i64 _)) rfl rfl (pr_move rfl) ?_
              obtain ⟨o31, ho31⟩ : ∃ o, more[i]? = some o := ⟨_, List.getElem?_eq_getElem (by omega)⟩
              have hko31 := hok_more o31 (List.mem_of_getElem? ho31)
              refine TF.idx (h_more.below H.base) rfl rfl (wantF_none rfl) Try.underlying30 (Try.ty9.s) rfl rfl (by omega) (by omega) ?_
              intro p29 hc30
              replace hc30 : ∀ j u, j < 1 → ((fun s : List UInt8 => [T s]) o31)[j]? = some u → w.cell? (p29.add j) = some u := fun j u hj hu => hc30 j u hj ((flat_at (fun s : List UInt8 => [T s]) 1 _ (fun _ => rfl) ho31 hj).trans hu)
              refine TF.load (v := (T o31)) rfl rfl (wantF_none rfl) Try.underlying9 rfl rfl (by have h_ := hc30 0 _ (by decide) rfl; rwa [add_zero] at h_) ?_
              refine TF.u (v := (.int .i64 _)) rfl rfl (pr_slen rfl Try.underlying9 rfl) ?_
              refine TF.u (v := (.bool _)) rfl rfl (pr_gtr rfl rfl) ?_
              refine TF.nil (nx_then ?_)
              refine cw_cond _ rfl rfl (fun hq33 => ?_) (fun hq33 => ?_)
              ·
                have hp33 := dT hq33
                refine cw_seq ?_
                -- region 21 law.go:122
                refine cw_region (clf [.U]) [0] rfl (by kernel_rfl) (by decide) ?_
                refine TF.u (v := (.bool _)) rfl rfl (pr_assign rfl) ?_
                refine TF.nil (nx_then ?_)
                refine cw_ret (rt_then (rt_block (rt_then (rt_then (rt_block (rt_then (fin1 (v := (.bool _)) Try.results5 rfl rfl ?_)))))))
                exact ⟨by simp, H.base⟩
              ·
                have hp33 := dF hq33
                refine cw_skip (nx_then ?_)
                -- region 22 law.go:124
                refine cw_region (clf [.U, .U, .U, .U, .X, .X, .X]) [0, 1, 2, 3, 4, 5, 6] rfl (by kernel_rfl) (by decide) ?_
                refine TF.u (v := (.pointer (some ⟨_, 0, none⟩))) rfl rfl (pr_move rfl) ?_
                refine TF.u (v := (.slice _ _ _)) rfl rfl (pr_move rfl) ?_
                refine TF.u (v := (.int .i64 _)) rfl rfl (pr_move rfl) ?_
                refine TF.idx (h_more.below H.base) rfl rfl (wantF_none rfl) Try.underlying30 (Try.ty9.s) rfl rfl (by omega) (by omega) ?_
                intro p34 hc35
                replace hc35 : ∀ j u, j < 1 → ((fun s : List UInt8 => [T s]) o31)[j]? = some u → w.cell? (p34.add j) = some u := fun j u hj hu => hc35 j u hj ((flat_at (fun s : List UInt8 => [T s]) 1 _ (fun _ => rfl) ho31 hj).trans hu)
                refine TF.load (v := (T o31)) rfl rfl (wantF_none rfl) Try.underlying9 rfl rfl (by have h_ := hc35 0 _ (by decide) rfl; rwa [add_zero] at h_) ?_
                refine TF.tobytes H rfl (Cx.xx rfl) (wantF_none rfl) Try.underlying9 Try.underlying25 Try.underlying5 rfl (by unfold maxLen; first | omega | (simp only [List.length_append]; omega)) ?_
                clear H
                intro Aow37 cow37 w hcapow37 hb38 H
                obtain ⟨F39, hF39, hU39⟩ := H.focus (k := 1) rfl
                refine TF.call (args := [(.pointer (some ⟨_, 0, none⟩)), (.slice _ _ _)]) Try.fn12 rfl rfl (wantF_none rfl) rfl (tappend_ok _ _ _ _ _ _ _ _ hF39 oks2 (H.rd (k := 0) rfl) (by first | omega | (simp only [List.length_append, List.length_cons, List.length_nil]; omega))) ?_
                rintro e_ w ⟨rfl, hu39, ok39⟩
                refine ⟨_, rfl, ?_⟩
                replace H := hU39 hu39
                replace H : Sat _ _ _ [_, _] := H
                refine TF.nil (nx_block (nx_then ?_))
                -- region 23 law.go:120
                refine cw_region (clf [.U, .U]) [0, 1] rfl (by kernel_rfl) (by decide) ?_
                refine TF.u (v := (.int .i64 _)) rfl rfl (pr_add rfl rfl (IntWalk.i64_in _ (by omega))) ?_
                refine TF.u (v := (.int .i64 _)) rfl rfl (pr_move rfl) ?_
                refine TF.nil (nx_loop (m' := n_more - (i + 1)) (by omega) ?_)
                exact ⟨_, i + 1, _, rfl, (cutS (cutS (cutS (cutS (cutS (cutS rfl rfl) rfl) rfl) rfl) rfl) rfl), (H.del 0), by omega, ok39, by rw [tAppend_fast]; exact hfN⟩
            ·
              have hp28 := dF hq28
              refine cw_exit (ex_then (ex_then (ex_here (nx_then ?_))))
              refine cw_seq ?_
              -- region 24 law.go:126
              refine cw_region (clf [.U, .X, .X, .U]) [0, 1, 2, 3] rfl (by kernel_rfl) (by decide) ?_
              skip
              refine TF.u (v := (.pointer (some ⟨_, 0, none⟩))) rfl rfl (pr_move rfl) ?_
              obtain ⟨F40, hF40, hU40⟩ := H.focus (k := 0) rfl
              refine TF.call (args := [(.pointer (some ⟨_, 0, none⟩))]) Try.fn13 rfl rfl (wantF_none rfl) rfl (tbytes_ok _ _ _ _ hF40 oks2) ?_
              rintro e_ w ⟨A40, n40, c40, rfl, hn40⟩
              refine ⟨_, rfl, ?_⟩
              replace H := H.newS hn40
              refine TF.tostr (H.rd (k := 0) rfl) rfl rfl (wantF_none rfl) Try.underlying25 Try.underlying5 Try.underlying9 rfl ?_
              refine TF.u (v := (T _)) rfl rfl (pr_assign rfl) ?_
              refine TF.nil (nx_then ?_)
              refine cw_seq ?_
              refine cw_seq ?_
              -- region 25 law.go:127
              refine cw_region (clf [.U, .X, .U, .U, .U, .U, .U, .U, .U, .U]) [0, 1, 2, 3, 4, 5, 6, 7, 8, 9] rfl (by kernel_rfl) (by decide) ?_
              have hkf := oks2.fast
              have hkl := oks2.len
              have hkr := oks2.room
              have hle := tLeft_le oks2 keep
              refine TF.u (v := (.pointer (some ⟨_, 0, none⟩))) rfl rfl (pr_move rfl) ?_
              obtain ⟨F43, hF43, hU43⟩ := H.focus (k := 1) rfl
              refine TF.call (args := [(.pointer (some ⟨_, 0, none⟩))]) Try.fn15 rfl rfl (wantF_none rfl) rfl (tsynced_ok _ _ _ _ hF43 oks2) ?_
              rintro e_ w ⟨rfl, hb42⟩
              refine ⟨_, rfl, ?_⟩
              replace H := H.below hb42
              refine TF.u (v := (.int .i64 _)) rfl rfl (pr_move rfl) ?_
              refine TF.u (v := (.bool _)) rfl rfl (pr_neq rfl rfl) ?_
              refine TF.u (v := (.bool _)) rfl rfl (pr_move rfl) ?_
              refine TF.split (dj := 83) rfl (fun hq45 => by
                  have hp45 := dF (nT hq45)
                  exfalso
                  first | omega | exact hp45 rfl | exact hp45 (by decide) | (simp at hp45; done) | (simp at hp45; omega)) ?_
              intro hq45
              have hp45 := dT (nF hq45)
              refine TF.ug (v := (T _)) rfl rfl (wantF_yes rfl rfl rfl hq45) (pr_move rfl) ?_
              refine TF.ug (v := (.int .i64 _)) rfl rfl (wantF_yes rfl rfl rfl hq45) (pr_slen rfl Try.underlying9 rfl) ?_
              refine TF.ug (v := (.int .i64 _)) rfl rfl (wantF_yes rfl rfl rfl hq45) (pr_move rfl) ?_
              refine TF.ug (v := (.bool _)) rfl rfl (wantF_yes rfl rfl rfl hq45) (pr_lss rfl rfl) ?_
              refine TF.u (v := (.bool _)) rfl rfl (pr_pickF rfl hq45 rfl) ?_
              refine TF.nil (nx_then ?_)
              refine cw_cond _ rfl rfl (fun hq47 => by
                  have hp47 := dT hq47
                  exfalso
                  first | omega | exact hp47 rfl | exact hp47 (by decide) | (simp at hp47; done) | (simp at hp47; omega)) ?_
              intro hq47
              have hp47 := dF hq47
              refine cw_skip (nx_then ?_)
              refine cw_seq ?_
              -- region 27 law.go:130
              refine cw_region (clf [.U, .U, .X]) [0, 1, 2] rfl (by kernel_rfl) (by decide) ?_
              refine TF.u (v := (.pointer (some ⟨_, 0, none⟩))) rfl rfl (pr_move rfl) ?_
              refine TF.u (v := (.int .i64 _)) rfl rfl (pr_move rfl) ?_
              obtain ⟨F48, hF48, hU48⟩ := H.focus (k := 1) rfl
              refine TF.call (args := [(.pointer (some ⟨_, 0, none⟩)), (.int .i64 _)]) Try.fn14 rfl rfl (wantF_none rfl) rfl (tcrash_ok _ _ _ _ _ hF48 oks2 (by omega) (by omega)) ?_
              rintro e_ w ⟨rfl, hu48, ok48⟩
              refine ⟨_, rfl, ?_⟩
              replace H := hU48 hu48
              replace H : Sat _ _ _ [_, _] := H
              refine TF.nil (nx_then ?_)
              refine cw_seq ?_
              -- region 28 law.go:131
              refine cw_region (clf [.U, .X, .X, .U]) [0, 1, 2, 3] rfl (by kernel_rfl) (by decide) ?_
              refine TF.u (v := (.pointer (some ⟨_, 0, none⟩))) rfl rfl (pr_move rfl) ?_
              obtain ⟨F49, hF49, hU49⟩ := H.focus (k := 1) rfl
              refine TF.call (args := [(.pointer (some ⟨_, 0, none⟩))]) Try.fn13 rfl rfl (wantF_none rfl) rfl (tbytes_ok _ _ _ _ hF49 ok48) ?_
              rintro e_ w ⟨A49, n49, c49, rfl, hn49⟩
              refine ⟨_, rfl, ?_⟩
              replace H := H.newS hn49
              refine TF.tostr (H.rd (k := 0) rfl) rfl rfl (wantF_none rfl) Try.underlying25 Try.underlying5 Try.underlying9 rfl ?_
              refine TF.u (v := (T _)) rfl rfl (pr_assign rfl) ?_
              refine TF.nil (nx_then ?_)
              refine cw_seq ?_
              -- region 29 law.go:132
              refine cw_region (clf [.U, .U, .U, .U, .U, .U, .U, .U]) [0, 1, 2, 3, 4, 5, 6, 7] rfl (by kernel_rfl) (by decide) ?_
              refine TF.u (v := (.int .i64 _)) rfl rfl (pr_move rfl) ?_
              refine TF.u (v := (T _)) rfl rfl (pr_move rfl) ?_
              refine TF.u (v := (.int .i64 _)) rfl rfl (pr_slen rfl Try.underlying9 rfl) ?_
              refine TF.u (v := (.int .i64 _)) rfl rfl (pr_move rfl) ?_
              refine TF.u (v := (.int .i64 _)) rfl rfl (pr_sub rfl rfl (IntWalk.i64_in _ (by omega))) ?_
              refine TF.u (v := (.int .i64 _)) rfl rfl (pr_min2 rfl rfl rfl) ?_
              refine TF.u (v := (.int .i64 _)) rfl rfl (pr_max2 rfl rfl rfl) ?_
              refine TF.u (v := (.int .i64 _)) rfl rfl (pr_assign rfl) ?_
              refine TF.nil (nx_then ?_)
              refine cw_seq ?_
              -- region 30 law.go:133
              refine cw_region (clf [.U, .U, .U, .U, .U, .U, .U, .U, .U, .X, .U, .U, .U, .U, .U, .U, .X, .U, .U, .U, .U, .U]) [0, 1, 2, 3, 4, 5, 6, 7, 8, 9, 10, 11, 12, 13, 14, 15, 16, 17, 18, 19, 20, 21] rfl (by kernel_rfl) (by decide) ?_
              refine TF.u (v := (T _)) rfl rfl (pr_move rfl) ?_
              refine TF.u (v := (T _)) rfl rfl (pr_move rfl) ?_
              refine TF.u (v := (.int .i64 _)) rfl rfl (pr_move rfl) ?_
              refine TF.u (v := (.int .i64 _)) rfl rfl (pr_move rfl) ?_
              refine TF.u (v := (.int .i64 _)) rfl rfl (pr_add rfl rfl (show _ = ((tLeft s2 keep : Nat) : Int) from (IntWalk.i64_in _ (by omega)).trans (by unfold tLeft; omega))) ?_
              refine TF.u (v := (T _)) rfl rfl (pr_sslice (l := 0) (h := tLeft s2 keep) Try.underlying9 rfl (.inl ⟨rfl, rfl⟩) (.inr ⟨_, _, rfl, rfl⟩) (by omega) (by omega)) ?_
              refine TF.u (v := (.bool _)) rfl rfl (pr_seql rfl rfl) ?_
              refine TF.u (v := (.bool _)) rfl rfl (pr_move rfl) ?_
              refine TF.split (dj := 109) rfl ?_ (fun hq52 => by
                  have hp52 := eF hq52
                  exfalso
                  exact hp52 rfl)
              intro hq52
              have hp52 := eT hq52
              refine TF.ug (v := (.pointer (some ⟨_, 0, none⟩))) rfl rfl (wantF_yes rfl rfl rfl hq52) (pr_move rfl) ?_
              obtain ⟨F54, hF54, hU54⟩ := H.focus (k := 2) rfl
              refine TF.call (args := [(.pointer (some ⟨_, 0, none⟩))]) Try.fn15 rfl rfl (wantF_yes rfl rfl rfl hq52) rfl (tsynced_ok _ _ _ _ hF54 ok48) ?_
              rintro e_ w ⟨rfl, hb53⟩
              refine ⟨_, rfl, ?_⟩
              replace H := H.below hb53
              refine TF.ug (v := (T _)) rfl rfl (wantF_yes rfl rfl rfl hq52) (pr_move rfl) ?_
              refine TF.ug (v := (.int .i64 _)) rfl rfl (wantF_yes rfl rfl rfl hq52) (pr_slen rfl Try.underlying9 rfl) ?_
              refine TF.ug (v := (.bool _)) rfl rfl (wantF_yes rfl rfl rfl hq52) (pr_eql rfl rfl) ?_
              refine TF.u (v := (.bool _)) rfl rfl (pr_pickT rfl hq52 rfl) ?_
              refine TF.u (v := (.bool _)) rfl rfl (pr_move rfl) ?_
              refine TF.split (dj := 116) rfl ?_ (fun hq56 => by
                  have hp56 := dF hq56
                  exfalso
                  exact hp56 (by simp only [tCrash, List.length_take]; omega))
              intro hq56
              have hp56 := dT hq56
              refine TF.ug (v := (.pointer (some ⟨_, 0, none⟩))) rfl rfl (wantF_yes rfl rfl rfl hq56) (pr_move rfl) ?_
              obtain ⟨F58, hF58, hU58⟩ := H.focus (k := 2) rfl
              refine TF.call (args := [(.pointer (some ⟨_, 0, none⟩))]) Try.fn17 rfl rfl (wantF_yes rfl rfl rfl hq56) rfl (tlen_ok _ _ _ _ hF58 ok48) ?_
              rintro e_ w ⟨rfl, hb57⟩
              refine ⟨_, rfl, ?_⟩
              replace H := H.below hb57
              refine TF.ug (v := (T _)) rfl rfl (wantF_yes rfl rfl rfl hq56) (pr_move rfl) ?_
              refine TF.ug (v := (.int .i64 _)) rfl rfl (wantF_yes rfl rfl rfl hq56) (pr_slen rfl Try.underlying9 rfl) ?_
              refine TF.ug (v := (.bool _)) rfl rfl (wantF_yes rfl rfl rfl hq56) (pr_eql rfl rfl) ?_
              refine TF.u (v := (.bool _)) rfl rfl (pr_pickT rfl hq56 rfl) ?_
              refine TF.u (v := (.bool _)) rfl rfl (pr_assign rfl) ?_
              refine TF.nil (nx_then ?_)
              refine cw_ret (fin1 (v := (.bool _)) Try.results5 rfl rfl ?_)
              exact ⟨by simp, H.base⟩
end Go.Proofs.Ytdanpfiombbdoaa
namespace Go.Proofs.Ytdanpfiombbdoaa
open Go.ChangeShapes Go.WideShapes Go.ChangeAt Go.RowKit
open Go.ChangeMaps (open_string shut_string)
theorem tapeStands_own : ownKnob Try.prog.godebug = none := by kernel_rfl
theorem tapeStands_laid : laidOutB Try.prog = true := by kernel_rfl
set_option maxRecDepth 100000 in
theorem tapeStands_lifted (os : Os) (started : os.Started) (H : Type) (enc : TypeId × Value → H) :
    ReturnsInHanded {} Try.checked os 5 .any (Rows.tapeStandsSpec.pre6 enc Try.prog Try.f5 Rows.tapeStandsRow.domain false) (Rows.tapeStandsSpec.post enc Try.prog Try.f5 false true false false) := by
  refine returnsInHanded_of_change_sized (C := Try.checked) tapeStands_own started (by kernel_rfl) Try.func5
    (ChangeSpec.witness6 (enc := enc) (C := Try.checked) false ⟨#[], #[.int .i64 0, .slice none 0 0, .slice none 0 0, .int .i64 0], []⟩ 8 (by kernel_rfl) (by kernel_rfl) (by kernel_rfl) (by kernel_rfl)) ?_
  intro W base args ds gs before hval0 hW hcnd hsz0 _
  have hval : ∀ (j : Nat) t v, Try.f5.params[j]? = some t → args[j]? = some v → Value.okWide Try.prog W .any base t v := hval0
  have hW' := hW
  obtain ⟨p, q, hA0, hV, rfl, hfz, hnd⟩ := hW
  have hA : DataW.TrodAll enc Try.prog W 0 (fun _ => true) true Try.f5.params.toList args.toList ds p := hA0
  have hsz : (DataW.weightsEach Try.prog (Try.f5.params.toList ++ Rows.tapeStandsSpec.plain.varTypes Try.prog) (ds ++ gs)).all (· ≤ reachBytes) = true := hsz0
  rw [Try.params5] at hA hval hsz
  obtain ⟨v0, vs0, d0, ds0, p0, q0, hargs, rfl, rfl, h0, r0⟩ := trodAll_cons hA
  obtain ⟨v1, vs1, d1, ds1, p1, q1, rfl, rfl, rfl, h1, r1⟩ := trodAll_cons r0
  obtain ⟨v2, vs2, d2, ds2, p2, q2, rfl, rfl, rfl, h2, r2⟩ := trodAll_cons r1
  obtain ⟨v3, vs3, d3, ds3, p3, q3, rfl, rfl, rfl, h3, r3⟩ := trodAll_cons r2
  obtain ⟨rfl, rfl, rfl⟩ := trodAll_nil r3
  obtain rfl : args = #[v0, v1, v2, v3] := by cases args; simp_all
  obtain ⟨rfl, rfl⟩ := trodVars_none hV
  obtain ⟨a0, rfl, rfl, rfl, m0⟩ := open_int Try.underlying3 (hval 0 3 v0 rfl rfl) h0
  have z0 := bounds_i64 m0
  have k1 := h1
  have lt1 : ∀ x ∈ p1, x.block < W.heap.size := by obtain ⟨m, hm⟩ := k1; exact DataW.trod_lt m _ _ _ hm
  obtain ⟨fu1, hf1⟩ := h1
  obtain ⟨A1, n1, c1, rfl⟩ := okWide_slice Try.underlying30 (hval 1 30 v1 rfl rfl)
  obtain ⟨A1', n1', c1', l1, he1, hr1, hl1, ho1⟩ := Go.Q.open_slice (sz := 1) (fun s : List UInt8 => [Go.Q.T s]) (fun s => s.length ≤ 9223372036854775807) Try.underlying30 (by kernel_rfl) (fun _ _ _ h => Go.Q.open_str Try.underlying9 h) (fun _ => rfl) hf1
  obtain ⟨rfl, rfl, rfl⟩ : A1 = A1' ∧ n1 = n1' ∧ c1 = c1' := by simpa [Value.cells] using he1
  have k2 := h2
  have lt2 : ∀ x ∈ p2, x.block < W.heap.size := by obtain ⟨m, hm⟩ := k2; exact DataW.trod_lt m _ _ _ hm
  obtain ⟨fu2, hf2⟩ := h2
  obtain ⟨A2, n2, c2, rfl⟩ := okWide_slice Try.underlying30 (hval 2 30 v2 rfl rfl)
  obtain ⟨A2', n2', c2', l2, he2, hr2, hl2, ho2⟩ := Go.Q.open_slice (sz := 1) (fun s : List UInt8 => [Go.Q.T s]) (fun s => s.length ≤ 9223372036854775807) Try.underlying30 (by kernel_rfl) (fun _ _ _ h => Go.Q.open_str Try.underlying9 h) (fun _ => rfl) hf2
  obtain ⟨rfl, rfl, rfl⟩ : A2 = A2' ∧ n2 = n2' ∧ c2 = c2' := by simpa [Value.cells] using he2
  obtain ⟨a3, rfl, rfl, rfl, m3⟩ := open_int Try.underlying3 (hval 3 3 v3 rfl rfl) h3
  have z3 := bounds_i64 m3
  clear hA0 hval0
  refine (TapeStands_ok a0 A1 n1 c1 l1 A2 n2 c2 l2 a3 W z0.1 z0.2 hr1 hl1 ho1 hr2 hl2 ho2 z3.1 z3.2).mono fun e W' ⟨he, bel⟩ => ?_
  subst he
  exact ⟨_, rfl, _, _, _, [], _, [], hW', trodAll_mk1 (shut_bool Try.underlying4 _), (trodAll_cons_mk (shut_int Try.underlying3 m0) (trodAll_cons_mk (Below.trod tapeStands_laid (by kernel_rfl) (of_decide_eq_true (by kernel_rfl)) k1 bel lt1) (trodAll_cons_mk (Below.trod tapeStands_laid (by kernel_rfl) (of_decide_eq_true (by kernel_rfl)) k2 bel lt2) (trodAll_cons_mk (shut_int Try.underlying3 m3) trodAll_mk0)))), rfl, bel.frame _, fun h => by cases h⟩
theorem tapeStands_holds : Rows.TapeStandsSaid :=
  OpenClaim.holds_of_wide 5 Try.f5 rfl rfl rfl rfl rfl rfl rfl ⟨rfl, rfl, rfl, rfl, rfl⟩ rfl rfl rfl rfl rfl (by kernel_rfl) Try.func5 (by kernel_rfl)
    (of_decide_eq_true (by kernel_rfl)) (by unfold Func.isWrapper; first | (rw [if_pos (by decide +kernel)]; kernel_rfl) | (rw [if_neg (by decide +kernel)]; exact ⟨rfl, rfl⟩))
    (fun os started H enc _ => tapeStands_lifted os started H enc)
end Go.Proofs.Ytdanpfiombbdoaa
