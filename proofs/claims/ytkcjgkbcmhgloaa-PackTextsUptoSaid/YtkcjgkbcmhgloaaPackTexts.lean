/- The given statement Rows.PackTextsUptoSaid: quayside/quaysidelaw01.PackTexts returns true for all arguments of bulk at most 1048576, and leaves its arguments as they were. No further condition. -/
import Derived.Test.YtkcjgkbcmhgloaaFns1
import Derived.Test.YtkcjgkbcmhgloaaRows
import Derived.WalkKit
import Derived.ProofKit
import Derived.OpenShut
import Derived.ShutString
import Derived.ChangeOld
import Derived.Below
import Derived.SizedLaws
import Derived.JoinedCond
set_option linter.unusedSimpArgs false
set_option linter.unusedVariables false
set_option maxRecDepth 10000
namespace Go.Proofs.Ytkcjgkbcmhgloaa
open Go.Q Go.RowKit Go.Proofs
theorem Try.fn10 : Fnc Try.prog 10 Try.f10 := ⟨Try.func10, by kernel_rfl, by kernel_rfl⟩
theorem Try.fn17 : Fnc Try.prog 17 Try.f17 := ⟨Try.func17, by kernel_rfl, by kernel_rfl⟩
theorem Try.fn18 : Fnc Try.prog 18 Try.f18 := ⟨Try.func18, by kernel_rfl, by kernel_rfl⟩
theorem Try.fn20 : Fnc Try.prog 20 Try.f20 := ⟨Try.func20, by kernel_rfl, by kernel_rfl⟩
theorem PackTexts_ok (b : List UInt8) (s : List UInt8) (behind : List UInt8) (w0 : World) (hbulk : b.length + s.length + behind.length ≤ 1048576) :
    Calls Try.prog 9 #[T b, T s, T behind] w0 fun e w => e = .returned (.bool true) ∧ Below w0.heap.size w0 w := by
  refine enter (args := [T b, T s, T behind]) Try.func9 rfl Try.ntmps9 rfl ?_
  have H := Sat.start w0
  refine cw_seq ?_
  -- region 0 law.go:38
  refine cw_region (clf [.U]) [0] rfl (by kernel_rfl) ?_
  refine TF.u (v := (.bool _)) rfl rfl (pr_assign rfl) ?_
  refine TF.nil (nx_then ?_)
  refine cw_seq ?_
  refine cw_seq ?_
  -- region 1 law.go:39
  refine cw_region (clf [.X, .U]) [0, 1] rfl (by kernel_rfl) ?_
  refine TF.call (args := []) Try.fn10 rfl rfl (wantF_none rfl) rfl (awake_ok _) ?_
  rintro e_ w1 ⟨rfl, hb1⟩
  refine ⟨_, rfl, ?_⟩
  replace H := H.below hb1
  refine TF.u (v := (.bool _)) rfl rfl (pr_not rfl) ?_
  refine TF.nil (nx_then ?_)
  refine cw_condF (t := _) rfl rfl rfl ?_
  refine cw_skip (nx_then ?_)
  refine cw_seq ?_
  -- region 3 law.go:42
  refine cw_region (clf [.U, .X, .U, .X, .U, .U, .U, .U, .U]) [0, 1, 2, 3, 4, 5, 6, 7, 8] rfl (by kernel_rfl) ?_
  refine TF.u (v := (T _)) rfl rfl (pr_move rfl) ?_
  refine TF.tobytes H rfl (.inl rfl) (wantF_none rfl) Try.underlying9 Try.underlying24 Try.underlying5 rfl (by unfold maxLen; omega) ?_
  clear H
  intro Aow2 cow2 w hcapow2 hb3 H
  refine TF.u (v := (T _)) rfl rfl (pr_move rfl) ?_
  refine TF.call (args := [(.slice _ _ _), (T _)]) Try.fn17 rfl rfl (wantF_none rfl) rfl (putText_ok _ _ _ _ _ _ (H.rd (k := 0) rfl) (by omega) (by omega)) ?_
  rintro e_ w1 ⟨A4, n4, c4, rfl, hn4⟩
  refine ⟨_, rfl, ?_⟩
  replace H := H.newS hn4
  refine TF.u (v := (.tuple _)) rfl rfl (pr_move rfl) ?_
  refine TF.u (v := (.slice _ _ _)) rfl rfl (pr_extract (vs := _) rfl rfl) ?_
  refine TF.u (v := (.int .i64 _)) rfl rfl (pr_extract (vs := _) rfl rfl) ?_
  refine TF.u (v := (.slice _ _ _)) rfl rfl (pr_assign rfl) ?_
  refine TF.u (v := (.int .i64 _)) rfl rfl (pr_assign rfl) ?_
  refine TF.nil (nx_then ?_)
  refine cw_seq ?_
  -- region 4 law.go:43
  refine cw_region (clf [.U, .U, .X, .U, .U, .U, .U, .U]) [0, 1, 2, 3, 4, 5, 6, 7] rfl (by kernel_rfl) ?_
  refine TF.u (v := (T _)) rfl rfl (pr_move rfl) ?_
  refine TF.u (v := (T _)) rfl rfl (pr_move rfl) ?_
  refine TF.call (args := [(T _), (T _)]) Try.fn20 rfl rfl (wantF_none rfl) rfl (rputText_ok _ _ _ (by omega) (by omega)) ?_
  rintro e_ w1 ⟨rfl, hb6⟩
  refine ⟨_, rfl, ?_⟩
  replace H := H.below hb6
  refine TF.u (v := (.tuple _)) rfl rfl (pr_move rfl) ?_
  refine TF.u (v := (T _)) rfl rfl (pr_extract (vs := _) rfl rfl) ?_
  refine TF.u (v := (.int .i64 _)) rfl rfl (pr_extract (vs := _) rfl rfl) ?_
  refine TF.u (v := (T _)) rfl rfl (pr_assign rfl) ?_
  refine TF.u (v := (.int .i64 _)) rfl rfl (pr_assign rfl) ?_
  refine TF.nil (nx_then ?_)
  refine cw_seq ?_
  refine cw_seq ?_
  -- region 5 law.go:44
  refine cw_region (clf [.U, .X, .U, .U, .U, .U, .U, .U, .U]) [0, 1, 2, 3, 4, 5, 6, 7, 8] rfl (by kernel_rfl) ?_
  refine TF.u (v := (.slice _ _ _)) rfl rfl (pr_move rfl) ?_
  refine TF.tostr (H.rd (k := 0) rfl) rfl rfl (wantF_none rfl) Try.underlying24 Try.underlying5 Try.underlying9 rfl ?_
  refine TF.u (v := (T _)) rfl rfl (pr_move rfl) ?_
  refine TF.u (v := (.bool _)) rfl rfl (pr_sneq rfl rfl) ?_
  refine TF.u (v := (.bool _)) rfl rfl (pr_move rfl) ?_
  refine TF.split (dj := 33) rfl (fun hq8 => by
      have hp8 := eF (nT hq8)
      exfalso
      first | omega | exact hp8 rfl | exact hp8 (by decide) | (simp at hp8; done)) ?_
  intro hq8
  have hp8 := eT (nF hq8)
  refine TF.ug (v := (.int .i64 _)) rfl rfl (wantF_yes rfl rfl rfl hq8) (pr_move rfl) ?_
  refine TF.ug (v := (.int .i64 _)) rfl rfl (wantF_yes rfl rfl rfl hq8) (pr_move rfl) ?_
  refine TF.ug (v := (.bool _)) rfl rfl (wantF_yes rfl rfl rfl hq8) (pr_neq rfl rfl) ?_
  refine TF.u (v := (.bool _)) rfl rfl (pr_pickF rfl hq8 rfl) ?_
  refine TF.nil (nx_then ?_)
  refine cw_cond _ rfl rfl (fun hq10 => by
      have hp10 := dF (nT hq10)
      exfalso
      first | omega | exact hp10 rfl | exact hp10 (by decide) | (simp at hp10; done)) ?_
  intro hq10
  have hp10 := dT (nF hq10)
  refine cw_skip (nx_then ?_)
  refine cw_seq ?_
  refine cw_seq ?_
  -- region 7 law.go:47
  refine cw_region (clf [.U, .U]) [0, 1] rfl (by kernel_rfl) ?_
  refine TF.u (v := (.int .i64 _)) rfl rfl (pr_move rfl) ?_
  refine TF.u (v := (.bool _)) rfl rfl (pr_neq rfl rfl) ?_
  refine TF.nil (nx_then ?_)
  refine cw_cond _ rfl rfl (fun hq12 => ?_) (fun hq12 => ?_)
  ·
    have hp12 := dF (nT hq12)
    refine cw_seq ?_
    -- region 8 law.go:48
    refine cw_region (clf [.U]) [0] rfl (by kernel_rfl) ?_
    refine TF.u (v := (.bool _)) rfl rfl (pr_assign rfl) ?_
    refine TF.nil (nx_then ?_)
    refine cw_ret (rt_then (fin1 (v := (.bool _)) Try.results9 rfl rfl ?_))
    exact ⟨by simp, H.base⟩
  ·
    have hp12 := dT (nF hq12)
    refine cw_skip (nx_then ?_)
    refine cw_seq ?_
    -- region 9 law.go:50
    refine cw_region (clf [.U, .U, .U, .U, .U, .U, .U, .X, .U, .U, .X, .U, .U, .U, .U, .U, .U, .U]) [0, 1, 2, 3, 4, 5, 6, 7, 8, 9, 10, 11, 12, 13, 14, 15, 16, 17] rfl (by kernel_rfl) ?_
    have hs5 := putTextS_ok (by assumption)
    rw [putTextS_yes (by omega)] at H ⊢
    have hlen := (H.rdB (k := 0) rfl).length
    have hcap := (H.rdB (k := 0) rfl).cap
    have hlen2 := hlen
    simp only [List.length_append, List.length_cons, List.length_nil] at hlen2
    refine TF.u (v := (.slice _ _ _)) rfl rfl (pr_move rfl) ?_
    refine TF.u (v := (.slice _ _ _)) rfl rfl (pr_move rfl) ?_
    refine TF.u (v := (.int .i64 _)) rfl rfl (pr_len rfl Try.underlying24 rfl) ?_
    refine TF.u (v := (.slice _ _ _)) rfl rfl (pr_move rfl) ?_
    refine TF.u (v := (.int .i64 _)) rfl rfl (pr_len rfl Try.underlying24 rfl) ?_
    refine TF.u (v := (.slice _ _ _)) rfl rfl (pr_cut (l := 0) (h := n4) (mm := n4) Try.underlying24 (Try.ty5.s) rfl (.inl ⟨rfl, rfl⟩) (.inr ⟨_, _, rfl, rfl⟩) (.inr ⟨_, _, rfl, rfl⟩) (by omega) (by omega) (by omega) (n' := n4) (c' := n4) (by omega) (by omega)) ?_
    have hcut13 := RdB.cut (lo := 0) (hi := n4) (m := n4) (n' := n4) (c' := n4) (H.rd (k := 0) rfl) (by omega) (by omega) (by omega) (by omega) (by omega) (by omega)
    refine TF.u (v := (T _)) rfl rfl (pr_move rfl) ?_
    refine TF.appendN (v := (T _)) H hcut13 rfl hcut13.none0 rfl (.inl rfl) (wantF_none rfl) Try.underlying24 (Try.ty5) rfl Try.underlying9 (.inl rfl) rfl rfl (Src.text _ _) (by unfold maxLen; omega) (by omega) ?_
    clear H
    intro A_15 c_15 w hb15 H hap14
    replace hcut13 := hcut13.below hb15
    replace H : Sat _ _ _ [_, _] := H
    rw [← u8s_app] at hap14
    refine TF.u (v := (T _)) rfl rfl (pr_move rfl) ?_
    refine TF.u (v := (.int .i64 _)) rfl rfl (pr_slen rfl Try.underlying9 rfl) ?_
    refine TF.call (args := [(.slice _ _ _), (.int .i64 _)]) Try.fn18 rfl rfl (wantF_none rfl) rfl (takeText_ok _ _ _ _ _ _ hap14 (by omega) (by omega) (by omega)) ?_
    rintro e_ w1 ⟨rfl, hb16⟩
    refine ⟨_, rfl, ?_⟩
    replace hcut13 := hcut13.below hb16
    replace hap14 := hap14.below hb16
    replace H := H.below hb16
    refine TF.u (v := (.tuple _)) rfl rfl (pr_move rfl) ?_
    refine TF.u (v := (T _)) rfl rfl (pr_extract (vs := _) rfl rfl) ?_
    refine TF.u (v := (.int .i64 _)) rfl rfl (pr_extract (vs := _) rfl rfl) ?_
    refine TF.u (v := (.int .i64 _)) rfl rfl (pr_extract (vs := _) rfl rfl) ?_
    refine TF.u (v := (T _)) rfl rfl (pr_assign rfl) ?_
    refine TF.u (v := (.int .i64 _)) rfl rfl (pr_assign rfl) ?_
    refine TF.u (v := (.int .i64 _)) rfl rfl (pr_assign rfl) ?_
    refine TF.nil (nx_then ?_)
    refine cw_seq ?_
    -- region 10 law.go:51
    refine cw_region (clf [.U, .U, .U, .U, .U, .U, .U, .U, .U, .U, .U, .U, .U, .U]) [0, 1, 2, 3, 4, 5, 6, 7, 8, 9, 10, 11, 12, 13] rfl (by kernel_rfl) ?_
    rw [List.drop_zero, List.take_of_length_le (Nat.le_of_eq (H.rdB (k := 0) rfl).length), takeTextS_back hs5, hlen]
    refine TF.u (v := (T _)) rfl rfl (pr_move rfl) ?_
    refine TF.u (v := (T _)) rfl rfl (pr_move rfl) ?_
    refine TF.u (v := (.bool _)) rfl rfl (pr_seql rfl rfl) ?_
    refine TF.u (v := (.bool _)) rfl rfl (pr_move rfl) ?_
    refine TF.split (dj := 58) rfl ?_ (fun hq18 => by
        have hp18 := eF hq18
        exfalso
        first | omega | exact hp18 rfl | exact hp18 (by decide) | (simp at hp18; done))
    intro hq18
    have hp18 := eT hq18
    refine TF.ug (v := (.int .i64 _)) rfl rfl (wantF_yes rfl rfl rfl hq18) (pr_move rfl) ?_
    refine TF.ug (v := (.slice _ _ _)) rfl rfl (wantF_yes rfl rfl rfl hq18) (pr_move rfl) ?_
    refine TF.ug (v := (.int .i64 _)) rfl rfl (wantF_yes rfl rfl rfl hq18) (pr_len rfl Try.underlying24 rfl) ?_
    refine TF.ug (v := (.bool _)) rfl rfl (wantF_yes rfl rfl rfl hq18) (pr_eql rfl rfl) ?_
    refine TF.u (v := (.bool _)) rfl rfl (pr_pickT rfl hq18 rfl) ?_
    refine TF.u (v := (.bool _)) rfl rfl (pr_move rfl) ?_
    refine TF.split (dj := 64) rfl ?_ (fun hq20 => by
        have hp20 := dF hq20
        exfalso
        first | omega | exact hp20 rfl | exact hp20 (by decide) | (simp at hp20; done))
    intro hq20
    have hp20 := dT hq20
    refine TF.ug (v := (.int .i64 _)) rfl rfl (wantF_yes rfl rfl rfl hq20) (pr_move rfl) ?_
    refine TF.ug (v := (.bool _)) rfl rfl (wantF_yes rfl rfl rfl hq20) (pr_eql rfl rfl) ?_
    refine TF.u (v := (.bool _)) rfl rfl (pr_pickT rfl hq20 rfl) ?_
    refine TF.u (v := (.bool _)) rfl rfl (pr_assign rfl) ?_
    refine TF.nil (nx_then ?_)
    refine cw_ret (fin1 (v := (.bool _)) Try.results9 rfl rfl ?_)
    exact ⟨by simp, H.base⟩
end Go.Proofs.Ytkcjgkbcmhgloaa
namespace Go.Proofs.Ytkcjgkbcmhgloaa
open Go.ChangeShapes Go.WideShapes Go.ChangeAt Go.RowKit
open Go.ChangeMaps (open_string shut_string)
theorem packTexts_own : ownKnob Try.prog.godebug = none := by kernel_rfl
set_option maxRecDepth 100000 in
theorem packTexts_lifted (os : Os) (started : os.Started) (H : Type) (enc : TypeId × Value → H) (F : Stop.Interp) :
    ReturnsInHanded {} Try.checked os 9 .any ((Rows.OpenSpec.upto Rows.packTextsSpec).pre6 enc Try.prog Try.f9 Rows.packTextsUptoRow.domain false) (((Rows.OpenSpec.upto Rows.packTextsSpec).at F).post enc Try.prog Try.f9 false true false false) := by
  refine returnsInHanded_of_cond (C := Try.checked) (s := (Rows.OpenSpec.upto Rows.packTextsSpec)) (k := Rows.uptoSmall) rfl packTexts_own started (by kernel_rfl) Try.func9
    (OpenSpec.witness (enc := enc) (C := Try.checked) (s := (Rows.OpenSpec.upto Rows.packTextsSpec)) (k := Rows.uptoSmall) rfl false ⟨#[], #[.string .empty, .string .empty, .string .empty], []⟩ 8 (by kernel_rfl) (by kernel_rfl) (by kernel_rfl)
      (x := ([.lit (.string []), .lit (.string []), .lit (.string [])], [], [])) (by kernel_rfl) rfl (by kernel_rfl)) ?_
  intro W base args ds gs before hval0 hW _ hk _
  have hval : ∀ (j : Nat) t v, Try.f9.params[j]? = some t → args[j]? = some v → Value.okWide Try.prog W .any base t v := hval0
  have hW' := hW
  obtain ⟨p, q, hA0, hV, rfl, hfz, hnd⟩ := hW
  have hA : DataW.TrodAll enc Try.prog W 0 (fun _ => true) true Try.f9.params.toList args.toList ds p := hA0
  rw [Try.params9] at hA hval
  obtain ⟨v0, vs0, d0, ds0, p0, q0, hargs, rfl, rfl, h0, r0⟩ := trodAll_cons hA
  obtain ⟨v1, vs1, d1, ds1, p1, q1, rfl, rfl, rfl, h1, r1⟩ := trodAll_cons r0
  obtain ⟨v2, vs2, d2, ds2, p2, q2, rfl, rfl, rfl, h2, r2⟩ := trodAll_cons r1
  obtain ⟨rfl, rfl, rfl⟩ := trodAll_nil r2
  obtain rfl : args = #[v0, v1, v2] := by cases args; simp_all
  obtain ⟨rfl, rfl⟩ := trodVars_none hV
  obtain ⟨a0, rfl, rfl, rfl, m0⟩ := open_string Try.underlying9 (hval 0 9 v0 rfl rfl) h0
  obtain ⟨a1, rfl, rfl, rfl, m1⟩ := open_string Try.underlying9 (hval 1 9 v1 rfl rfl) h1
  obtain ⟨a2, rfl, rfl, rfl, m2⟩ := open_string Try.underlying9 (hval 2 9 v2 rfl rfl) h2
  clear hA0 hval0
  have hk1 : Rows.uptoBulkAll (H := H) ([.lit (.string a0.data.toList), .lit (.string a1.data.toList), .lit (.string a2.data.toList)] ++ []) ≤ 1048576 := of_decide_eq_true hk
  simp only [List.cons_append, List.nil_append, Rows.uptoBulkAll, Rows.uptoBulk] at hk1
  simp only [List.append_nil] at hW'
  refine (PackTexts_ok a0.data.toList a1.data.toList a2.data.toList W (by omega)).mono fun e W' ⟨he, bel⟩ => ?_
  subst he
  exact ⟨_, rfl, _, _, _, [], _, [], hW', trodAll_mk1 (shut_bool Try.underlying4 _), (trodAll_cons_mk (shut_string Try.underlying9 m0) (trodAll_cons_mk (shut_string Try.underlying9 m1) (trodAll_cons_mk (shut_string Try.underlying9 m2) trodAll_mk0))), rfl, bel.frame _, fun h => by cases h⟩
theorem packTexts_holds : Rows.PackTextsUptoSaid :=
  OpenClaim.holds_of_cond 9 Try.f9 rfl rfl rfl rfl rfl rfl rfl ⟨rfl, rfl, rfl, rfl, rfl⟩ rfl rfl rfl rfl rfl (by kernel_rfl) Try.func9 (by kernel_rfl)
    (of_decide_eq_true (by kernel_rfl)) (by unfold Func.isWrapper; first | (rw [if_pos (by decide +kernel)]; kernel_rfl) | (rw [if_neg (by decide +kernel)]; exact ⟨rfl, rfl⟩))
    (fun os started H enc _ F => packTexts_lifted os started H enc F)
end Go.Proofs.Ytkcjgkbcmhgloaa
