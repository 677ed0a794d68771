/- The given statement Rows.PackBackUptoSaid: quayside/quaysidelaw01.PackBack returns true for all arguments of bulk at most 1048576, and leaves its arguments as they were. No further condition. -/
import Derived.Test.YtkcjgkbcmhgloaaFns1
import Derived.Test.YtkcjgkbcmhgloaaRows
import Derived.WalkKit
import Derived.ProofKit
import Derived.OpenShut
import Derived.ShutString
import Derived.ChangeOld
import Derived.Below
import Derived.SizedLaws
import Derived.JoinedCond
set_option linter.unusedSimpArgs false
set_option linter.unusedVariables false
set_option maxRecDepth 10000
namespace Go.Proofs.Ytkcjgkbcmhgloaa
open Go.Q Go.RowKit Go.Proofs
theorem Try.fn10 : Fnc Try.prog 10 Try.f10 := ⟨Try.func10, by kernel_rfl, by kernel_rfl⟩
theorem PackBack_ok (b : List UInt8) (behind : List UInt8) (width : Int) (n : Nat) (cut : Nat) (w0 : World) (hwidth1 : -9223372036854775808 ≤ width) (hwidth2 : width ≤ 9223372036854775807) (hn : n < 18446744073709551616) (hcut : cut < 18446744073709551616) (hbulk : b.length + behind.length ≤ 1048576) :
    Calls Try.prog 5 #[T b, T behind, .int .i64 width, .int .u64 (n : Int), .int .u64 (cut : Int)] w0 fun e w => e = .returned (.bool true) ∧ Below w0.heap.size w0 w := by
  refine enter (args := [T b, T behind, .int .i64 width, .int .u64 (n : Int), .int .u64 (cut : Int)]) Try.func5 rfl Try.ntmps5 rfl ?_
  have H := Sat.start w0
  refine cw_seq ?_
  -- region 0 law.go:65
  refine cw_region (clf [.U]) [0] rfl (by kernel_rfl) ?_
  refine TF.u (v := (.bool _)) rfl rfl (pr_assign rfl) ?_
  refine TF.nil (nx_then ?_)
  refine cw_seq ?_
  refine cw_seq ?_
  -- region 1 law.go:66
  refine cw_region (clf [.X, .U]) [0, 1] rfl (by kernel_rfl) ?_
  refine TF.call (args := []) Try.fn10 rfl rfl (wantF_none rfl) rfl (awake_ok _) ?_
  rintro e_ w1 ⟨rfl, hb1⟩
  refine ⟨_, rfl, ?_⟩
  replace H := H.below hb1
  refine TF.u (v := (.bool _)) rfl rfl (pr_not rfl) ?_
  refine TF.nil (nx_then ?_)
  refine cw_condF (t := _) rfl rfl rfl ?_
  refine cw_skip (nx_then ?_)
  refine cw_seq ?_
  -- region 3 law.go:69
  refine cw_region (clf [.U, .X, .U, .U, .X, .U, .U, .U, .U, .U]) [0, 1, 2, 3, 4, 5, 6, 7, 8, 9] rfl (by kernel_rfl) ?_
  refine TF.u (v := (T _)) rfl rfl (pr_move rfl) ?_
  refine TF.tobytes H rfl (.inl rfl) (wantF_none rfl) Try.underlying9 Try.underlying24 Try.underlying5 rfl (by unfold maxLen; omega) ?_
  clear H
  intro Aow2 cow2 w hcapow2 hb3 H
  refine TF.u (v := (.int .i64 _)) rfl rfl (pr_move rfl) ?_
  refine TF.u (v := (.int .u64 _)) rfl rfl (pr_move rfl) ?_
  refine TF.call (args := [(.slice _ _ _), (.int .i64 _), (.int .u64 _)]) Try.fn11 rfl rfl (wantF_none rfl) rfl (put_ok _ _ _ _ _ _ _ (H.rd (k := 0) rfl) (by omega) (by omega) (by omega) (by omega)) ?_
  rintro e_ w1 ⟨A4, n4, c4, rfl, hn4⟩
  refine ⟨_, rfl, ?_⟩
  replace H := H.newS hn4
  refine TF.u (v := (.tuple _)) rfl rfl (pr_move rfl) ?_
  refine TF.u (v := (.slice _ _ _)) rfl rfl (pr_extract (vs := _) rfl rfl) ?_
  refine TF.u (v := (.int .i64 _)) rfl rfl (pr_extract (vs := _) rfl rfl) ?_
  refine TF.u (v := (.slice _ _ _)) rfl rfl (pr_assign rfl) ?_
  refine TF.u (v := (.int .i64 _)) rfl rfl (pr_assign rfl) ?_
  refine TF.nil (nx_then ?_)
  refine cw_seq ?_
  refine cw_seq ?_
  -- region 4 law.go:70
  refine cw_region (clf [.U, .U]) [0, 1] rfl (by kernel_rfl) ?_
  refine TF.u (v := (.int .i64 _)) rfl rfl (pr_move rfl) ?_
  refine TF.u (v := (.bool _)) rfl rfl (pr_neq rfl rfl) ?_
  refine TF.nil (nx_then ?_)
  refine cw_cond _ rfl rfl (fun hq7 => ?_) (fun hq7 => ?_)
  ·
    have hp7 := dF (nT hq7)
    refine cw_seq ?_
    -- region 5 law.go:71
    refine cw_region (clf [.U, .U, .X, .U, .U]) [0, 1, 2, 3, 4] rfl (by kernel_rfl) ?_
    refine TF.u (v := (.int .i64 _)) rfl rfl (pr_move rfl) ?_
    refine TF.u (v := (.int .u64 _)) rfl rfl (pr_move rfl) ?_
    refine TF.call (args := [(.int .i64 _), (.int .u64 _)]) Try.fn13 rfl rfl (wantF_none rfl) rfl (fits_ok _ _ _ (by omega) (by omega) (by omega)) ?_
    rintro e_ w1 ⟨rfl, hb8⟩
    refine ⟨_, rfl, ?_⟩
    replace H := H.below hb8
    refine TF.u (v := (.bool _)) rfl rfl (pr_not rfl) ?_
    refine TF.u (v := (.bool _)) rfl rfl (pr_assign rfl) ?_
    refine TF.nil (nx_then ?_)
    refine cw_ret (rt_then (fin1 (v := (.bool _)) Try.results5 rfl rfl ?_))
    exact ⟨by rw [putS_err (by assumption)]; rfl, H.base⟩
  ·
    have hp7 := dT (nF hq7)
    refine cw_skip (nx_then ?_)
    refine cw_seq ?_
    refine cw_seq ?_
    -- region 6 law.go:73
    refine cw_region (clf [.U, .U, .U, .U, .U, .U, .U]) [0, 1, 2, 3, 4, 5, 6] rfl (by kernel_rfl) ?_
    have hfit := putS_ok (by assumption)
    obtain ⟨hw3, hw4, hw5⟩ := fits_bounds hfit
    obtain ⟨wd, rfl⟩ := Int.eq_ofNat_of_zero_le (show 0 ≤ width by omega)
    rw [putS_yes hfit] at H ⊢
    simp only [Int.toNat_natCast] at hw5 H
    have hlen := (H.rdB (k := 0) rfl).length
    rw [List.length_append, be_len] at hlen
    have hcap := (H.rdB (k := 0) rfl).cap
    refine TF.u (v := (.slice _ _ _)) rfl rfl (pr_move rfl) ?_
    refine TF.u (v := (.int .i64 _)) rfl rfl (pr_len rfl Try.underlying24 rfl) ?_
    refine TF.u (v := (T _)) rfl rfl (pr_move rfl) ?_
    refine TF.u (v := (.int .i64 _)) rfl rfl (pr_slen rfl Try.underlying9 rfl) ?_
    refine TF.u (v := (.int .i64 _)) rfl rfl (pr_move rfl) ?_
    refine TF.u (v := (.int .i64 _)) rfl rfl (pr_add rfl rfl (IntWalk.i64_in _ (by omega))) ?_
    refine TF.u (v := (.bool _)) rfl rfl (pr_neq rfl rfl) ?_
    refine TF.nil (nx_then ?_)
    refine cw_cond _ rfl rfl (fun hq11 => by
        have hp11 := dF (nT hq11)
        exfalso
        omega) ?_
    intro hq11
    have hp11 := dT (nF hq11)
    refine cw_skip (nx_then ?_)
    refine cw_seq ?_
    -- region 8 law.go:76
    refine cw_region (clf [.U, .U, .U, .U, .U, .U, .U, .X, .U, .U, .U, .X, .U, .U, .U, .U, .U]) [0, 1, 2, 3, 4, 5, 6, 7, 8, 9, 10, 11, 12, 13, 14, 15, 16] rfl (by kernel_rfl) ?_
    refine TF.u (v := (.slice _ _ _)) rfl rfl (pr_move rfl) ?_
    refine TF.u (v := (.slice _ _ _)) rfl rfl (pr_move rfl) ?_
    refine TF.u (v := (.int .i64 _)) rfl rfl (pr_len rfl Try.underlying24 rfl) ?_
    refine TF.u (v := (.slice _ _ _)) rfl rfl (pr_move rfl) ?_
    refine TF.u (v := (.int .i64 _)) rfl rfl (pr_len rfl Try.underlying24 rfl) ?_
    refine TF.u (v := (.slice _ _ _)) rfl rfl (pr_cut (l := 0) (h := n4) (mm := n4) Try.underlying24 (Try.ty5.s) rfl (.inl ⟨rfl, rfl⟩) (.inr ⟨_, _, rfl, rfl⟩) (.inr ⟨_, _, rfl, rfl⟩) (by omega) (by omega) (by omega) (n' := n4) (c' := n4) (by omega) (by omega)) ?_
    have hcut12 := RdB.cut (lo := 0) (hi := n4) (m := n4) (n' := n4) (c' := n4) (H.rd (k := 0) rfl) (by omega) (by omega) (by omega) (by omega) (by omega) (by omega)
    refine TF.u (v := (T _)) rfl rfl (pr_move rfl) ?_
    refine TF.appendN (v := (T _)) H hcut12 rfl hcut12.none0 rfl (.inl rfl) (wantF_none rfl) Try.underlying24 (Try.ty5) rfl Try.underlying9 (.inl rfl) rfl rfl (Src.text _ _) (by unfold maxLen; omega) (by omega) ?_
    clear H
    intro A_14 c_14 w hb14 H hap13
    replace hcut12 := hcut12.below hb14
    replace H : Sat _ _ _ [_, _] := H
    rw [← u8s_app] at hap13
    refine TF.u (v := (T _)) rfl rfl (pr_move rfl) ?_
    refine TF.u (v := (.int .i64 _)) rfl rfl (pr_slen rfl Try.underlying9 rfl) ?_
    refine TF.u (v := (.int .i64 _)) rfl rfl (pr_move rfl) ?_
    refine TF.call (args := [(.slice _ _ _), (.int .i64 _), (.int .i64 _)]) Try.fn15 rfl rfl (wantF_none rfl) rfl (take_ok _ _ _ _ _ _ _ hap13 (by omega) (by omega) (by omega) (by omega) (by omega)) ?_
    rintro e_ w1 ⟨rfl, hb15⟩
    refine ⟨_, rfl, ?_⟩
    replace hcut12 := hcut12.below hb15
    replace hap13 := hap13.below hb15
    replace H := H.below hb15
    refine TF.u (v := (.tuple _)) rfl rfl (pr_move rfl) ?_
    refine TF.u (v := (.int .u64 _)) rfl rfl (pr_extract (vs := _) rfl rfl) ?_
    refine TF.u (v := (.int .i64 _)) rfl rfl (pr_extract (vs := _) rfl rfl) ?_
    refine TF.u (v := (.int .u64 _)) rfl rfl (pr_assign rfl) ?_
    refine TF.u (v := (.int .i64 _)) rfl rfl (pr_assign rfl) ?_
    refine TF.nil (nx_then ?_)
    refine cw_seq ?_
    -- region 9 law.go:77
    refine cw_region (clf [.U, .U, .U, .U, .U, .U, .U, .U, .U, .U, .U, .U, .U, .X, .U, .U, .U, .U, .U]) [0, 1, 2, 3, 4, 5, 6, 7, 8, 9, 10, 11, 12, 13, 14, 15, 16, 17, 18] rfl (by kernel_rfl) ?_
    have hk1 : cut % wd < wd := Nat.mod_lt _ (by omega)
    refine TF.u (v := (.slice _ _ _)) rfl rfl (pr_move rfl) ?_
    refine TF.u (v := (T _)) rfl rfl (pr_move rfl) ?_
    refine TF.u (v := (.int .i64 _)) rfl rfl (pr_slen rfl Try.underlying9 rfl) ?_
    refine TF.u (v := (.int .u64 _)) rfl rfl (pr_move rfl) ?_
    refine TF.u (v := (.int .i64 _)) rfl rfl (pr_move rfl) ?_
    refine TF.u (v := (.int .u64 _)) rfl rfl (pr_conv Try.underlying3 Try.underlying37 rfl (IntWalk.u64_in _ (by omega))) ?_
    refine TF.u (v := (.int .u64 _)) rfl rfl (pr_rem rfl rfl (by omega) (Int.ofNat_tmod _ _).symm) ?_
    refine TF.u (v := (.int .i64 _)) rfl rfl (pr_conv Try.underlying37 Try.underlying3 rfl (IntWalk.i64_in _ (by omega))) ?_
    refine TF.u (v := (.int .i64 _)) rfl rfl (pr_add rfl rfl (IntWalk.i64_in _ (by omega))) ?_
    refine TF.u (v := (.slice _ _ _)) rfl rfl (pr_cut (l := 0) (h := b.length + cut % wd) (mm := c4) Try.underlying24 (Try.ty5.s) rfl (.inl ⟨rfl, rfl⟩) (.inr ⟨_, _, rfl, rfl⟩) (.inl ⟨rfl, rfl⟩) (by omega) (by omega) (by omega) (n' := b.length + cut % wd) (c' := c4) (by omega) (by omega)) ?_
    have hcut16 := RdB.cut (lo := 0) (hi := b.length + cut % wd) (m := c4) (n' := b.length + cut % wd) (c' := c4) (H.rd (k := 0) rfl) (by omega) (by omega) (by omega) (by omega) (by omega) (by omega)
    refine TF.u (v := (T _)) rfl rfl (pr_move rfl) ?_
    refine TF.u (v := (.int .i64 _)) rfl rfl (pr_slen rfl Try.underlying9 rfl) ?_
    refine TF.u (v := (.int .i64 _)) rfl rfl (pr_move rfl) ?_
    refine TF.call (args := [(.slice _ _ _), (.int .i64 _), (.int .i64 _)]) Try.fn15 rfl rfl (wantF_none rfl) rfl (take_ok _ _ _ _ _ _ _ hcut16 (by omega) (by omega) (by omega) (by omega) (by omega)) ?_
    rintro e_ w1 ⟨rfl, hb17⟩
    refine ⟨_, rfl, ?_⟩
    replace hcut12 := hcut12.below hb17
    replace hap13 := hap13.below hb17
    replace hcut16 := hcut16.below hb17
    replace H := H.below hb17
    refine TF.u (v := (.tuple _)) rfl rfl (pr_move rfl) ?_
    refine TF.u (v := (.int .u64 _)) rfl rfl (pr_extract (vs := _) rfl rfl) ?_
    refine TF.u (v := (.int .i64 _)) rfl rfl (pr_extract (vs := _) rfl rfl) ?_
    refine TF.u (v := (.int .u64 _)) rfl rfl (pr_assign rfl) ?_
    refine TF.u (v := (.int .i64 _)) rfl rfl (pr_assign rfl) ?_
    refine TF.nil (nx_then ?_)
    refine cw_seq ?_
    -- region 10 law.go:78
    refine cw_region (clf [.U, .U, .U, .U, .U, .U, .U, .U, .U, .U, .U, .U]) [0, 1, 2, 3, 4, 5, 6, 7, 8, 9, 10, 11] rfl (by kernel_rfl) ?_
    have hcE := takeS_cut (bs := List.take (b.length + cut % wd) (List.drop 0 (b ++ be wd n))) (a := b.length) (wd := wd) (by omega) (by omega) (by simp only [List.length_take]; omega)
    rw [hcE, List.drop_zero, List.take_of_length_le (Nat.le_of_eq (H.rdB (k := 0) rfl).length), takeS_back hfit]
    refine TF.u (v := (.int .u64 _)) rfl rfl (pr_move rfl) ?_
    refine TF.u (v := (.int .u64 _)) rfl rfl (pr_move rfl) ?_
    refine TF.u (v := (.bool _)) rfl rfl (pr_eql rfl rfl) ?_
    refine TF.u (v := (.bool _)) rfl rfl (pr_move rfl) ?_
    refine TF.split (dj := 75) rfl ?_ (fun hq19 => by
        have hp19 := dF hq19
        exfalso
        first | omega | exact hp19 rfl | exact hp19 (by decide) | (simp at hp19; done))
    intro hq19
    have hp19 := dT hq19
    refine TF.ug (v := (.int .i64 _)) rfl rfl (wantF_yes rfl rfl rfl hq19) (pr_move rfl) ?_
    refine TF.ug (v := (.bool _)) rfl rfl (wantF_yes rfl rfl rfl hq19) (pr_eql rfl rfl) ?_
    refine TF.u (v := (.bool _)) rfl rfl (pr_pickT rfl hq19 rfl) ?_
    refine TF.u (v := (.bool _)) rfl rfl (pr_move rfl) ?_
    refine TF.split (dj := 79) rfl ?_ (fun hq21 => by
        have hp21 := dF hq21
        exfalso
        first | omega | exact hp21 rfl | exact hp21 (by decide) | (simp at hp21; done))
    intro hq21
    have hp21 := dT hq21
    refine TF.ug (v := (.int .i64 _)) rfl rfl (wantF_yes rfl rfl rfl hq21) (pr_move rfl) ?_
    refine TF.ug (v := (.bool _)) rfl rfl (wantF_yes rfl rfl rfl hq21) (pr_eql rfl rfl) ?_
    refine TF.u (v := (.bool _)) rfl rfl (pr_pickT rfl hq21 rfl) ?_
    refine TF.u (v := (.bool _)) rfl rfl (pr_assign rfl) ?_
    refine TF.nil (nx_then ?_)
    refine cw_ret (fin1 (v := (.bool _)) Try.results5 rfl rfl ?_)
    exact ⟨by simp, H.base⟩
end Go.Proofs.Ytkcjgkbcmhgloaa
namespace Go.Proofs.Ytkcjgkbcmhgloaa
open Go.ChangeShapes Go.WideShapes Go.ChangeAt Go.RowKit
open Go.ChangeMaps (open_string shut_string)
theorem packBack_own : ownKnob Try.prog.godebug = none := by kernel_rfl
set_option maxRecDepth 100000 in
theorem packBack_lifted (os : Os) (started : os.Started) (H : Type) (enc : TypeId × Value → H) (F : Stop.Interp) :
    ReturnsInHanded {} Try.checked os 5 .any ((Rows.OpenSpec.upto Rows.packBackSpec).pre6 enc Try.prog Try.f5 Rows.packBackUptoRow.domain false) (((Rows.OpenSpec.upto Rows.packBackSpec).at F).post enc Try.prog Try.f5 false true false false) := by
  refine returnsInHanded_of_cond (C := Try.checked) (s := (Rows.OpenSpec.upto Rows.packBackSpec)) (k := Rows.uptoSmall) rfl packBack_own started (by kernel_rfl) Try.func5
    (OpenSpec.witness (enc := enc) (C := Try.checked) (s := (Rows.OpenSpec.upto Rows.packBackSpec)) (k := Rows.uptoSmall) rfl false ⟨#[], #[.string .empty, .string .empty, .int .i64 0, .int .u64 0, .int .u64 0], []⟩ 8 (by kernel_rfl) (by kernel_rfl) (by kernel_rfl)
      (x := ([.lit (.string []), .lit (.string []), .lit (.int .i64 0), .lit (.int .u64 0), .lit (.int .u64 0)], [], [])) (by kernel_rfl) rfl (by kernel_rfl)) ?_
  intro W base args ds gs before hval0 hW _ hk _
  have hval : ∀ (j : Nat) t v, Try.f5.params[j]? = some t → args[j]? = some v → Value.okWide Try.prog W .any base t v := hval0
  have hW' := hW
  obtain ⟨p, q, hA0, hV, rfl, hfz, hnd⟩ := hW
  have hA : DataW.TrodAll enc Try.prog W 0 (fun _ => true) true Try.f5.params.toList args.toList ds p := hA0
  rw [Try.params5] at hA hval
  obtain ⟨v0, vs0, d0, ds0, p0, q0, hargs, rfl, rfl, h0, r0⟩ := trodAll_cons hA
  obtain ⟨v1, vs1, d1, ds1, p1, q1, rfl, rfl, rfl, h1, r1⟩ := trodAll_cons r0
  obtain ⟨v2, vs2, d2, ds2, p2, q2, rfl, rfl, rfl, h2, r2⟩ := trodAll_cons r1
  obtain ⟨v3, vs3, d3, ds3, p3, q3, rfl, rfl, rfl, h3, r3⟩ := trodAll_cons r2
  obtain ⟨v4, vs4, d4, ds4, p4, q4, rfl, rfl, rfl, h4, r4⟩ := trodAll_cons r3
  obtain ⟨rfl, rfl, rfl⟩ := trodAll_nil r4
  obtain rfl : args = #[v0, v1, v2, v3, v4] := by cases args; simp_all
  obtain ⟨rfl, rfl⟩ := trodVars_none hV
  obtain ⟨a0, rfl, rfl, rfl, m0⟩ := open_string Try.underlying9 (hval 0 9 v0 rfl rfl) h0
  obtain ⟨a1, rfl, rfl, rfl, m1⟩ := open_string Try.underlying9 (hval 1 9 v1 rfl rfl) h1
  obtain ⟨a2, rfl, rfl, rfl, m2⟩ := open_int Try.underlying3 (hval 2 3 v2 rfl rfl) h2
  have z2 := bounds_i64 m2
  obtain ⟨a3, rfl, rfl, rfl, m3⟩ := open_int Try.underlying22 (hval 3 22 v3 rfl rfl) h3
  have z3 := bounds_u64 m3
  obtain ⟨b3, rfl⟩ := Int.eq_ofNat_of_zero_le z3.1
  obtain ⟨a4, rfl, rfl, rfl, m4⟩ := open_int Try.underlying37 (hval 4 37 v4 rfl rfl) h4
  have z4 := bounds_u64 m4
  obtain ⟨b4, rfl⟩ := Int.eq_ofNat_of_zero_le z4.1
  clear hA0 hval0
  have hk1 : Rows.uptoBulkAll (H := H) ([.lit (.string a0.data.toList), .lit (.string a1.data.toList), .lit (.int .i64 a2), .lit (.int .u64 (b3 : Int)), .lit (.int .u64 (b4 : Int))] ++ []) ≤ 1048576 := of_decide_eq_true hk
  simp only [List.cons_append, List.nil_append, Rows.uptoBulkAll, Rows.uptoBulk] at hk1
  simp only [List.append_nil] at hW'
  refine (PackBack_ok a0.data.toList a1.data.toList a2 b3 b4 W z2.1 z2.2 (by omega) (by omega) (by omega)).mono fun e W' ⟨he, bel⟩ => ?_
  subst he
  exact ⟨_, rfl, _, _, _, [], _, [], hW', trodAll_mk1 (shut_bool Try.underlying4 _), (trodAll_cons_mk (shut_string Try.underlying9 m0) (trodAll_cons_mk (shut_string Try.underlying9 m1) (trodAll_cons_mk (shut_int Try.underlying3 m2) (trodAll_cons_mk (shut_int Try.underlying22 m3) (trodAll_cons_mk (shut_int Try.underlying37 m4) trodAll_mk0))))), rfl, bel.frame _, fun h => by cases h⟩
theorem packBack_holds : Rows.PackBackUptoSaid :=
  OpenClaim.holds_of_cond 5 Try.f5 rfl rfl rfl rfl rfl rfl rfl ⟨rfl, rfl, rfl, rfl, rfl⟩ rfl rfl rfl rfl rfl (by kernel_rfl) Try.func5 (by kernel_rfl)
    (of_decide_eq_true (by kernel_rfl)) (by unfold Func.isWrapper; first | (rw [if_pos (by decide +kernel)]; kernel_rfl) | (rw [if_neg (by decide +kernel)]; exact ⟨rfl, rfl⟩))
    (fun os started H enc _ F => packBack_lifted os started H enc F)
end Go.Proofs.Ytkcjgkbcmhgloaa
