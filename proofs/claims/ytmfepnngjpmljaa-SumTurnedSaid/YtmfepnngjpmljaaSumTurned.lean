/- The given statement Rows.SumTurnedSaid: quayside/quaysidelaw02.SumTurned returns true for all arguments, and leaves its arguments as they were. No further condition. -/
import Derived.Test.YtmfepnngjpmljaaFns1
import Derived.Test.YtmfepnngjpmljaaRows
import Derived.WalkKit
import Derived.ProofKit
import Derived.OpenShut
import Derived.ShutString
import Derived.ChangeOld
import Derived.Below
import Derived.SizedLaws
import Derived.JoinedCond
set_option linter.unusedSimpArgs false
set_option linter.unusedVariables false
set_option maxRecDepth 10000
namespace Go.Proofs.Ytmfepnngjpmljaa
open Go.Q Go.RowKit Go.Proofs
theorem Try.fn10 : Fnc Try.prog 10 Try.f10 := ⟨Try.func10, by kernel_rfl, by kernel_rfl⟩
theorem Try.fn15 : Fnc Try.prog 15 Try.f15 := ⟨Try.func15, by kernel_rfl, by kernel_rfl⟩
theorem Try.fn17 : Fnc Try.prog 17 Try.f17 := ⟨Try.func17, by kernel_rfl, by kernel_rfl⟩
theorem SumTurned_ok (b : List UInt8) (at_ : Nat) (turn : R) (w0 : World) (hb : b.length ≤ 140737488351232) (hat_ : at_ < 18446744073709551616)  :
    Calls Try.prog 8 #[T b, .int .u64 (at_ : Int), .int .u32 ((turn.toNat : Nat) : Int)] w0 fun e w => e = .returned (.bool true) ∧ Below w0.heap.size w0 w := by
  refine enter (args := [T b, .int .u64 (at_ : Int), .int .u32 ((turn.toNat : Nat) : Int)]) Try.func8 rfl Try.ntmps8 rfl ?_
  have H := Sat.start w0
  refine cw_seq ?_
  -- region 0 law.go:57
  refine cw_region (clf [.U]) [0] rfl (by kernel_rfl) (by decide) ?_
  refine TF.u (v := (.bool _)) rfl rfl (pr_assign rfl) ?_
  refine TF.nil (nx_then ?_)
  refine cw_seq ?_
  refine cw_seq ?_
  -- region 1 law.go:58
  refine cw_region (clf [.X, .U, .U, .U, .U, .U, .U, .U, .U, .U, .U]) [0, 1, 2, 3, 4, 5, 6, 7, 8, 9, 10] rfl (by kernel_rfl) (by decide) ?_
  refine TF.call (args := []) Try.fn10 rfl rfl (wantF_none rfl) rfl (awake_ok _) ?_
  rintro e_ w ⟨rfl, hb1⟩
  refine ⟨_, rfl, ?_⟩
  replace H := H.below hb1
  refine TF.u (v := (.bool _)) rfl rfl (pr_not rfl) ?_
  refine TF.u (v := (.bool _)) rfl rfl (pr_move rfl) ?_
  refine TF.ug (v := (T _)) rfl rfl (wantF_yes rfl rfl rfl rfl) (pr_move rfl) ?_
  refine TF.ug (v := (.int .i64 _)) rfl rfl (wantF_yes rfl rfl rfl rfl) (pr_slen rfl Try.underlying9 rfl) ?_
  refine TF.ug (v := (.bool _)) rfl rfl (wantF_yes rfl rfl rfl rfl) (pr_gtr rfl rfl) ?_
  refine TF.u (v := (.bool _)) rfl rfl (pr_pickF rfl rfl rfl) ?_
  refine TF.u (v := (.bool _)) rfl rfl (pr_move rfl) ?_
  refine TF.split (dj := 19) rfl (fun hq3 => ?_) (fun hq3 => ?_)
  ·
    have hp3 := dT hq3
    refine TF.skip rfl (wantF_no rfl rfl rfl hq3) ?_
    refine TF.skip rfl (wantF_no rfl rfl rfl hq3) ?_
    refine TF.u (v := (.bool _)) rfl rfl (pr_pickT rfl hq3 rfl) ?_
    refine TF.nil (nx_then ?_)
    refine cw_condT (t := _) rfl rfl rfl ?_
    refine cw_seq ?_
    -- region 2 law.go:59
    refine cw_region (clf [.X, .U]) [0, 1] rfl (by kernel_rfl) (by decide) ?_
    refine TF.call (args := []) Try.fn10 rfl rfl (wantF_none rfl) rfl (awake_ok _) ?_
    rintro e_ w ⟨rfl, hb4⟩
    refine ⟨_, rfl, ?_⟩
    replace H := H.below hb4
    refine TF.u (v := (.bool _)) rfl rfl (pr_assign rfl) ?_
    refine TF.nil (nx_then ?_)
    refine cw_ret (rt_then (fin1 (v := (.bool _)) Try.results8 rfl rfl ?_))
    exact ⟨by simp, H.base⟩
  ·
    have hp3 := dF hq3
    refine TF.ug (v := (.int .u32 _)) rfl rfl (wantF_yes rfl rfl rfl hq3) (pr_move rfl) ?_
    refine TF.ug (v := (.bool _)) rfl rfl (wantF_yes rfl rfl rfl hq3) (pr_eql rfl rfl) ?_
    refine TF.u (v := (.bool _)) rfl rfl (pr_pickF rfl hq3 rfl) ?_
    refine TF.nil (nx_then ?_)
    refine cw_cond _ rfl rfl (fun hq6 => ?_) (fun hq6 => ?_)
    ·
      have hp6 := dT hq6
      refine cw_seq ?_
      -- region 2 law.go:59
      refine cw_region (clf [.X, .U]) [0, 1] rfl (by kernel_rfl) (by decide) ?_
      refine TF.call (args := []) Try.fn10 rfl rfl (wantF_none rfl) rfl (awake_ok _) ?_
      rintro e_ w ⟨rfl, hb7⟩
      refine ⟨_, rfl, ?_⟩
      replace H := H.below hb7
      refine TF.u (v := (.bool _)) rfl rfl (pr_assign rfl) ?_
      refine TF.nil (nx_then ?_)
      refine cw_ret (rt_then (fin1 (v := (.bool _)) Try.results8 rfl rfl ?_))
      exact ⟨by simp, H.base⟩
    ·
      have hp6 := dF hq6
      refine cw_skip (nx_then ?_)
      refine cw_seq ?_
      -- region 3 law.go:61
      refine cw_region (clf [.U, .X, .X, .U]) [0, 1, 2, 3] rfl (by kernel_rfl) (by decide) ?_
      refine TF.u (v := (T _)) rfl rfl (pr_move rfl) ?_
      refine TF.tobytes H rfl (Cx.xx rfl) (wantF_none rfl) Try.underlying9 Try.underlying25 Try.underlying5 rfl (by unfold maxLen; first | omega | (simp only [List.length_append]; omega)) ?_
      clear H
      intro Aow8 cow8 w hcapow8 hb9 H
      refine TF.call (args := [(.slice _ _ _)]) Try.fn17 rfl rfl (wantF_none rfl) rfl (seal_ok _ _ _ _ _ (H.rd (k := 0) rfl) (by first | omega | (simp only [List.length_append]; omega))) ?_
      rintro e_ w ⟨A10, n10, c10, rfl, hn10⟩
      refine ⟨_, rfl, ?_⟩
      replace H := H.newS hn10
      refine TF.u (v := (.slice _ _ _)) rfl rfl (pr_assign rfl) ?_
      refine TF.nil (nx_then ?_)
      refine cw_seq ?_
      refine cw_seq ?_
      -- region 4 law.go:62
      refine cw_region (clf [.U, .U, .U, .U, .U, .U]) [0, 1, 2, 3, 4, 5] rfl (by kernel_rfl) (by decide) ?_
      have hs1 := (H.rdB (k := 0) rfl).length
      have hs2 := hs1
      rw [sealS_len] at hs2
      refine TF.u (v := (.slice _ _ _)) rfl rfl (pr_move rfl) ?_
      refine TF.u (v := (.int .i64 _)) rfl rfl (pr_len rfl Try.underlying25 rfl) ?_
      refine TF.u (v := (T _)) rfl rfl (pr_move rfl) ?_
      refine TF.u (v := (.int .i64 _)) rfl rfl (pr_slen rfl Try.underlying9 rfl) ?_
      refine TF.u (v := (.int .i64 _)) rfl rfl (pr_add rfl rfl (IntWalk.i64_in _ (by omega))) ?_
      refine TF.u (v := (.bool _)) rfl rfl (pr_neq rfl rfl) ?_
      refine TF.nil (nx_then ?_)
      refine cw_cond _ rfl rfl (fun hq13 => by
          have hp13 := dF (nT hq13)
          exfalso
          first | omega | exact hp13 rfl | exact hp13 (by decide) | (simp at hp13; done)) ?_
      intro hq13
      have hp13 := dT (nF hq13)
      refine cw_skip (nx_then ?_)
      refine cw_seq ?_
      -- region 6 law.go:65
      refine cw_region (clf [.U, .U, .U, .U, .U, .U, .U, .U, .U]) [0, 1, 2, 3, 4, 5, 6, 7, 8] rfl (by kernel_rfl) (by decide) ?_
      have hkm := Nat.mod_lt at_ (show 0 < 8 * n10 - 31 by omega)
      refine TF.u (v := (.int .u64 _)) rfl rfl (pr_move rfl) ?_
      refine TF.u (v := (.slice _ _ _)) rfl rfl (pr_move rfl) ?_
      refine TF.u (v := (.int .i64 _)) rfl rfl (pr_len rfl Try.underlying25 rfl) ?_
      refine TF.u (v := (.int .i64 _)) rfl rfl (pr_mul rfl rfl (IntWalk.i64_in _ (by omega))) ?_
      refine TF.u (v := (.int .i64 _)) rfl rfl (pr_sub rfl rfl (IntWalk.i64_in _ (by omega))) ?_
      refine TF.u (v := (.int .u64 _)) rfl rfl (pr_conv Try.underlying3 Try.underlying40 rfl (show _ = ((8 * n10 - 31 : Nat) : Int) from (IntWalk.u64_in _ (by omega)).trans (by omega))) ?_
      refine TF.u (v := (.int .u64 _)) rfl rfl (pr_rem rfl rfl (by omega) (Int.ofNat_tmod _ _).symm) ?_
      refine TF.u (v := (.int .i64 _)) rfl rfl (pr_conv Try.underlying40 Try.underlying3 rfl (IntWalk.i64_in _ (by omega))) ?_
      refine TF.u (v := (.int .i64 _)) rfl rfl (pr_assign rfl) ?_
      generalize at_ % (8 * n10 - 31) = k at hkm ⊢
      refine TF.nil (nx_then ?_)
      refine cw_seq ?_
      refine cw_seq ?_
      -- region 7 law.go:66
      refine cw_region (clf [.U]) [0] rfl (by kernel_rfl) (by decide) ?_
      refine TF.u (v := (.int .i64 _)) rfl rfl (pr_assign rfl) ?_
      refine TF.nil (nx_then ?_)
      refine cw_block ?_
      refine cw_loop (fun m f w => ∃ (g_ : Nat → Value) (i : Nat) (xs : List UInt8), m = 32 - i ∧ f = (upd (upd (upd (upd g_ 2 (.int .u32 ((turn.toNat : Nat) : Int))) 7 (.slice A10 n10 c10)) 8 (.int .i64 (k : Int))) 9 (.int .i64 (i : Int))) ∧ Sat [] w0 w [cOwnB 5 A10 n10 c10 xs] ∧ i ≤ 32 ∧ xs.length = n10 ∧ ∀ j, j < 8 * (sealS b).length → bitAt xs j = (bitAt (sealS b) j ^^ wn k i turn j)) (32 - 0) ?_ ?_
      ·
        exact ⟨_, 0, _, rfl, (cutS (cutS (cutS (cutS rfl rfl) rfl) rfl) rfl), (H.del 1), Nat.zero_le _, hs1, fun j hj => by rw [wn_0, Bool.xor_false]⟩
      ·
        clear H
        rintro m_ f_ w ⟨g_, i, xs, rfl, rfl, H, hi, hx1, hx2⟩
        refine cw_seq ?_
        refine cw_seq ?_
        -- region 8 law.go:66
        refine cw_region (clf [.U, .U]) [0, 1] rfl (by kernel_rfl) (by decide) ?_
        refine TF.u (v := (.int .i64 _)) rfl rfl (pr_move rfl) ?_
        refine TF.u (v := (.bool _)) rfl rfl (pr_lss rfl rfl) ?_
        refine TF.nil (nx_then ?_)
        refine cw_cond _ rfl rfl (fun hq15 => ?_) (fun hq15 => ?_)
        ·
          have hp15 := dT hq15
          refine cw_skip (nx_then ?_)
          refine cw_seq ?_
          refine cw_block ?_
          refine cw_seq ?_
          -- region 10 law.go:67
          refine cw_region (clf [.U, .U, .U, .U, .U, .U]) [0, 1, 2, 3, 4, 5] rfl (by kernel_rfl) (by decide) ?_
          refine TF.u (v := (.int .u32 _)) rfl rfl (pr_move rfl) ?_
          refine TF.u (v := (.int .i64 _)) rfl rfl (pr_move rfl) ?_
          refine TF.u (v := (.int .u64 _)) rfl rfl (pr_conv Try.underlying3 Try.underlying40 rfl (IntWalk.u64_in _ (by omega))) ?_
          refine TF.u (v := (.int .u32 _)) rfl rfl (pr_shr rfl rfl (by omega) (shr32 _ i (by omega))) ?_
          refine TF.u (v := (.int .u32 _)) rfl rfl (pr_and rfl rfl (a32 _)) ?_
          refine TF.u (v := (.bool _)) rfl rfl (pr_eql rfl rfl) ?_
          refine TF.nil (nx_then ?_)
          refine cw_cond _ rfl rfl (fun hq17 => ?_) (fun hq17 => ?_)
          ·
            have hp17 := dT hq17
            -- region 11 law.go:68
            refine cw_region (clf [.U, .U, .U, .U, .U, .U, .X, .U, .U, .U, .U, .U, .U, .U, .U, .X]) [0, 1, 2, 3, 4, 5, 6, 7, 8, 9, 10, 11, 12, 13, 14, 15] rfl (by kernel_rfl) (by decide) ?_
            have hbit := shr_low.symm.trans (low_T (by assumption))
            refine TF.u (v := (.slice _ _ _)) rfl rfl (pr_move rfl) ?_
            refine TF.u (v := (.int .i64 _)) rfl rfl (pr_move rfl) ?_
            refine TF.u (v := (.int .i64 _)) rfl rfl (pr_move rfl) ?_
            refine TF.u (v := (.int .i64 _)) rfl rfl (pr_add rfl rfl (IntWalk.i64_in _ (by omega))) ?_
            refine TF.u (v := (.int .i64 _)) rfl rfl (pr_quo rfl rfl (by omega) (show _ = (((k + i) / 8 : Nat) : Int) from IntWalk.i64_in _ (by have : (((k : Int) + (i : Int)).tdiv 8) = (((k + i) / 8 : Nat) : Int) := rfl; omega))) ?_
            refine TF.idxB (H.rd (k := 0) rfl) rfl rfl (wantF_none rfl) Try.underlying25 (Try.ty5.s) rfl rfl (by omega) (by omega) ?_
            intro p18 hc19
            refine TF.load (v := (.int .u8 _)) rfl rfl (wantF_none rfl) Try.underlying5 rfl rfl hc19 ?_
            refine TF.u (v := (.int .i64 _)) rfl rfl (pr_move rfl) ?_
            refine TF.u (v := (.int .i64 _)) rfl rfl (pr_move rfl) ?_
            refine TF.u (v := (.int .i64 _)) rfl rfl (pr_add rfl rfl (IntWalk.i64_in _ (by omega))) ?_
            refine TF.u (v := (.int .i64 _)) rfl rfl (pr_rem rfl rfl (by omega) (show _ = (((k + i) % 8 : Nat) : Int) from rfl)) ?_
            refine TF.u (v := (.int .u64 _)) rfl rfl (pr_conv Try.underlying3 Try.underlying40 rfl (IntWalk.u64_in _ (by omega))) ?_
            refine TF.u (v := (.int .u8 _)) rfl rfl (pr_shl rfl rfl (by omega) (shl8 (by omega))) ?_
            refine TF.u (v := (.int .u8 _)) rfl rfl (pr_xor rfl rfl (x8 _ _)) ?_
            obtain ⟨g22, rfl⟩ := H.ownSome (k := 0) rfl (by omega)
            refine TF.u (v := (.pointer (some ⟨g22, _, none⟩))) rfl rfl (pr_idxO (b := g22) (o' := _) Try.underlying25 (Try.ty5.s) rfl rfl (by omega) (by omega) (Nat.mul_one _)) ?_
            refine TF.storeO (v := (u8 _)) (q := 0) H rfl rfl rfl (wantF_none rfl) (Try.ty5.s) rfl rfl rfl (by simp; omega) ?_
            clear H
            intro w ho23 H
            replace H : Sat _ _ _ [_] := H
            rw [u8s_set] at H
            refine TF.nil (nx_block (nx_then ?_))
            -- region 9 law.go:66
            refine cw_region (clf [.U, .U, .U]) [0, 1, 2] rfl (by kernel_rfl) (by decide) ?_
            refine TF.u (v := (.int .i64 _)) rfl rfl (pr_move rfl) ?_
            refine TF.u (v := (.int .i64 _)) rfl rfl (pr_add rfl rfl (IntWalk.i64_in _ (by omega))) ?_
            refine TF.u (v := (.int .i64 _)) rfl rfl (pr_assign rfl) ?_
            refine TF.nil (nx_loop (m' := 32 - (i + 1)) (by omega) ?_)
            exact ⟨_, i + 1, _, rfl, (cutS (cutS (cutS (cutS rfl rfl) rfl) rfl) rfl), H, by omega, by simpa using hx1, fun j hj => by rw [flip_bit (q := k + i) (by omega) (by omega), hx2 j hj, wn_T hbit, Bool.xor_assoc]⟩
          ·
            have hp17 := dF hq17
            refine cw_skip (nx_block (nx_then ?_))
            -- region 9 law.go:66
            refine cw_region (clf [.U, .U, .U]) [0, 1, 2] rfl (by kernel_rfl) (by decide) ?_
            refine TF.u (v := (.int .i64 _)) rfl rfl (pr_move rfl) ?_
            refine TF.u (v := (.int .i64 _)) rfl rfl (pr_add rfl rfl (IntWalk.i64_in _ (by omega))) ?_
            refine TF.u (v := (.int .i64 _)) rfl rfl (pr_assign rfl) ?_
            refine TF.nil (nx_loop (m' := 32 - (i + 1)) (by omega) ?_)
            exact ⟨_, i + 1, _, rfl, (cutS (cutS (cutS (cutS rfl rfl) rfl) rfl) rfl), H, by omega, hx1, fun j hj => by rw [hx2 j hj, wn_F (i := i) (t := turn) (shr_low.symm.trans (low_F (by assumption)))]⟩
        ·
          have hp15 := dF hq15
          refine cw_exit (ex_then (ex_then (ex_here (nx_then ?_))))
          refine cw_seq ?_
          -- region 12 law.go:71
          refine cw_region (clf [.U, .X, .U, .U, .U, .U, .U]) [0, 1, 2, 3, 4, 5, 6] rfl (by kernel_rfl) (by decide) ?_
          obtain rfl : i = 32 := by omega
          have hop := turned_open (hx1.trans hs1.symm) (toNat_ne (b := 0#32) (by assumption)) (by rw [sealS_len]; omega) hx2
          refine TF.u (v := (.slice _ _ _)) rfl rfl (pr_move rfl) ?_
          refine TF.call (args := [(.slice _ _ _)]) Try.fn15 rfl rfl (wantF_none rfl) rfl (open_ok _ _ _ _ _ (H.rd (k := 0) rfl) (by first | omega | (simp only [List.length_append]; omega))) ?_
          rintro e_ w ⟨A24, n24, c24, rfl, hn24⟩
          refine ⟨_, rfl, ?_⟩
          replace H := H.newS hn24
          refine TF.u (v := (.tuple _)) rfl rfl (pr_move rfl) ?_
          refine TF.u (v := (.slice _ _ _)) rfl rfl (pr_extract (vs := _) rfl rfl) ?_
          refine TF.u (v := (.int .i64 _)) rfl rfl (pr_extract (vs := _) rfl rfl) ?_
          refine TF.u (v := (.slice _ _ _)) rfl rfl (pr_assign rfl) ?_
          refine TF.u (v := (.int .i64 _)) rfl rfl (pr_assign rfl) ?_
          refine TF.nil (nx_then ?_)
          refine cw_seq ?_
          -- region 13 law.go:72
          refine cw_region (clf [.U, .U, .U, .U, .U, .U, .U, .U]) [0, 1, 2, 3, 4, 5, 6, 7] rfl (by kernel_rfl) (by decide) ?_
          rw [hop] at H ⊢
          have hz := (H.rdB (k := 0) rfl).length
          refine TF.u (v := (.int .i64 _)) rfl rfl (pr_move rfl) ?_
          refine TF.u (v := (.bool _)) rfl rfl (pr_eql rfl rfl) ?_
          refine TF.u (v := (.bool _)) rfl rfl (pr_move rfl) ?_
          refine TF.split (dj := 73) rfl ?_ (fun hq27 => by
              have hp27 := dF hq27
              exfalso
              first | omega | exact hp27 rfl | exact hp27 (by decide) | (simp at hp27; done))
          intro hq27
          have hp27 := dT hq27
          refine TF.ug (v := (.slice _ _ _)) rfl rfl (wantF_yes rfl rfl rfl hq27) (pr_move rfl) ?_
          refine TF.ug (v := (.int .i64 _)) rfl rfl (wantF_yes rfl rfl rfl hq27) (pr_len rfl Try.underlying25 rfl) ?_
          refine TF.ug (v := (.bool _)) rfl rfl (wantF_yes rfl rfl rfl hq27) (pr_eql rfl rfl) ?_
          refine TF.u (v := (.bool _)) rfl rfl (pr_pickT rfl hq27 rfl) ?_
          refine TF.u (v := (.bool _)) rfl rfl (pr_assign rfl) ?_
          refine TF.nil (nx_then ?_)
          refine cw_ret (fin1 (v := (.bool _)) Try.results8 rfl rfl ?_)
          exact ⟨by simp [← hz], H.base⟩
end Go.Proofs.Ytmfepnngjpmljaa
namespace Go.Proofs.Ytmfepnngjpmljaa
open Go.ChangeShapes Go.WideShapes Go.ChangeAt Go.RowKit
open Go.ChangeMaps (open_string shut_string)
theorem sumTurned_own : ownKnob Try.prog.godebug = none := by kernel_rfl
set_option maxRecDepth 100000 in
theorem sumTurned_lifted (os : Os) (started : os.Started) (H : Type) (enc : TypeId × Value → H) :
    ReturnsInHanded {} Try.checked os 8 .any (Rows.sumTurnedSpec.pre6 enc Try.prog Try.f8 Rows.sumTurnedRow.domain false) (Rows.sumTurnedSpec.post enc Try.prog Try.f8 false true false false) := by
  refine returnsInHanded_of_change_sized (C := Try.checked) sumTurned_own started (by kernel_rfl) Try.func8
    (ChangeSpec.witness6 (enc := enc) (C := Try.checked) false ⟨#[], #[.string .empty, .int .u64 0, .int .u32 0], []⟩ 8 (by kernel_rfl) (by kernel_rfl) (by kernel_rfl) (by kernel_rfl)) ?_
  intro W base args ds gs before hval0 hW hcnd hsz0 _
  have hval : ∀ (j : Nat) t v, Try.f8.params[j]? = some t → args[j]? = some v → Value.okWide Try.prog W .any base t v := hval0
  have hW' := hW
  obtain ⟨p, q, hA0, hV, rfl, hfz, hnd⟩ := hW
  have hA : DataW.TrodAll enc Try.prog W 0 (fun _ => true) true Try.f8.params.toList args.toList ds p := hA0
  have hsz : (DataW.weightsEach Try.prog (Try.f8.params.toList ++ Rows.sumTurnedSpec.plain.varTypes Try.prog) (ds ++ gs)).all (· ≤ reachBytes) = true := hsz0
  rw [Try.params8] at hA hval hsz
  obtain ⟨v0, vs0, d0, ds0, p0, q0, hargs, rfl, rfl, h0, r0⟩ := trodAll_cons hA
  obtain ⟨v1, vs1, d1, ds1, p1, q1, rfl, rfl, rfl, h1, r1⟩ := trodAll_cons r0
  obtain ⟨v2, vs2, d2, ds2, p2, q2, rfl, rfl, rfl, h2, r2⟩ := trodAll_cons r1
  obtain ⟨rfl, rfl, rfl⟩ := trodAll_nil r2
  obtain rfl : args = #[v0, v1, v2] := by cases args; simp_all
  obtain ⟨rfl, rfl⟩ := trodVars_none hV
  obtain ⟨a0, rfl, rfl, rfl, m0⟩ := open_string Try.underlying9 (hval 0 9 v0 rfl rfl) h0
  have z0 : a0.data.toList.length ≤ 140737488351232 := sized_string hsz (j := 0) rfl rfl
  obtain ⟨a1, rfl, rfl, rfl, m1⟩ := open_int Try.underlying40 (hval 1 40 v1 rfl rfl) h1
  have z1 := bounds_u64 m1
  obtain ⟨b1, rfl⟩ := Int.eq_ofNat_of_zero_le z1.1
  obtain ⟨a2, rfl, rfl, rfl, m2⟩ := open_int Try.underlying22 (hval 2 22 v2 rfl rfl) h2
  have z2 := bounds_u32 m2
  obtain ⟨b2, rfl⟩ : ∃ b : BitVec 32, a2 = ((b.toNat : Nat) : Int) := ⟨BitVec.ofNat 32 a2.toNat, by rw [BitVec.toNat_ofNat]; omega⟩
  clear hA0 hval0
  refine (SumTurned_ok a0.data.toList b1 b2 W z0 (by omega)).mono fun e W' ⟨he, bel⟩ => ?_
  subst he
  exact ⟨_, rfl, _, _, _, [], _, [], hW', trodAll_mk1 (shut_bool Try.underlying4 _), (trodAll_cons_mk (shut_string Try.underlying9 m0) (trodAll_cons_mk (shut_int Try.underlying40 m1) (trodAll_cons_mk (shut_int Try.underlying22 m2) trodAll_mk0))), rfl, bel.frame _, fun h => by cases h⟩
theorem sumTurned_holds : Rows.SumTurnedSaid :=
  OpenClaim.holds_of_wide 8 Try.f8 rfl rfl rfl rfl rfl rfl rfl ⟨rfl, rfl, rfl, rfl, rfl⟩ rfl rfl rfl rfl rfl (by kernel_rfl) Try.func8 (by kernel_rfl)
    (of_decide_eq_true (by kernel_rfl)) (by unfold Func.isWrapper; first | (rw [if_pos (by decide +kernel)]; kernel_rfl) | (rw [if_neg (by decide +kernel)]; exact ⟨rfl, rfl⟩))
    (fun os started H enc _ => sumTurned_lifted os started H enc)
end Go.Proofs.Ytmfepnngjpmljaa
