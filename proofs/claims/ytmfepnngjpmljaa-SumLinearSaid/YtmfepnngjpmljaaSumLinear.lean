/- The given statement Rows.SumLinearSaid: quayside/quaysidelaw02.SumLinear returns true for all arguments, and leaves its arguments as they were. No further condition. -/
import Derived.Test.YtmfepnngjpmljaaFns1
import Derived.Test.YtmfepnngjpmljaaRows
import Derived.WalkKit
import Derived.ProofKit
import Derived.OpenShut
import Derived.ShutString
import Derived.ChangeOld
import Derived.Below
import Derived.SizedLaws
import Derived.JoinedCond
set_option linter.unusedSimpArgs false
set_option linter.unusedVariables false
set_option maxRecDepth 10000
namespace Go.Proofs.Ytmfepnngjpmljaa
open Go.Q Go.RowKit Go.Proofs
theorem Try.fn10 : Fnc Try.prog 10 Try.f10 := ⟨Try.func10, by kernel_rfl, by kernel_rfl⟩
theorem SumLinear_ok (a : List UInt8) (b : List UInt8) (c : List UInt8) (w0 : World) (ha : a.length ≤ 140737488351232) (hb : b.length ≤ 140737488351232) (hc : c.length ≤ 140737488351232) :
    Calls Try.prog 5 #[T a, T b, T c] w0 fun e w => e = .returned (.bool true) ∧ Below w0.heap.size w0 w := by
  refine enter (args := [T a, T b, T c]) Try.func5 rfl Try.ntmps5 rfl ?_
  have H := Sat.start w0
  refine cw_seq ?_
  -- region 0 law.go:76
  refine cw_region (clf [.U]) [0] rfl (by kernel_rfl) ?_
  refine TF.u (v := (.bool _)) rfl rfl (pr_assign rfl) ?_
  refine TF.nil (nx_then ?_)
  refine cw_seq ?_
  refine cw_seq ?_
  -- region 1 law.go:77
  refine cw_region (clf [.X, .U, .U, .U, .U, .U, .U, .U, .U, .U, .U, .U, .U, .U, .U, .U, .U, .U, .U, .U, .U]) [0, 1, 2, 3, 4, 5, 6, 7, 8, 9, 10, 11, 12, 13, 14, 15, 16, 17, 18, 19, 20] rfl (by kernel_rfl) ?_
  refine TF.call (args := []) Try.fn10 rfl rfl (wantF_none rfl) rfl (awake_ok _) ?_
  rintro e_ w1 ⟨rfl, hb1⟩
  refine ⟨_, rfl, ?_⟩
  replace H := H.below hb1
  refine TF.u (v := (.bool _)) rfl rfl (pr_not rfl) ?_
  refine TF.u (v := (.bool _)) rfl rfl (pr_move rfl) ?_
  refine TF.ug (v := (T _)) rfl rfl (wantF_yes rfl rfl rfl rfl) (pr_move rfl) ?_
  refine TF.ug (v := (.int .i64 _)) rfl rfl (wantF_yes rfl rfl rfl rfl) (pr_slen rfl Try.underlying9 rfl) ?_
  refine TF.ug (v := (.bool _)) rfl rfl (wantF_yes rfl rfl rfl rfl) (pr_gtr rfl rfl) ?_
  refine TF.u (v := (.bool _)) rfl rfl (pr_pickF rfl rfl rfl) ?_
  refine TF.u (v := (.bool _)) rfl rfl (pr_move rfl) ?_
  refine TF.split (dj := 16) rfl (fun hq3 => ?_) (fun hq3 => ?_)
  ·
    have hp3 := dT hq3
    refine TF.skip rfl (wantF_no rfl rfl rfl hq3) ?_
    refine TF.skip rfl (wantF_no rfl rfl rfl hq3) ?_
    refine TF.skip rfl (wantF_no rfl rfl rfl hq3) ?_
    refine TF.skip rfl (wantF_no rfl rfl rfl hq3) ?_
    refine TF.skip rfl (wantF_no rfl rfl rfl hq3) ?_
    refine TF.u (v := (.bool _)) rfl rfl (pr_pickT rfl hq3 rfl) ?_
    refine TF.u (v := (.bool _)) rfl rfl (pr_move rfl) ?_
    refine TF.skip rfl (wantF_no rfl rfl rfl rfl) ?_
    refine TF.skip rfl (wantF_no rfl rfl rfl rfl) ?_
    refine TF.skip rfl (wantF_no rfl rfl rfl rfl) ?_
    refine TF.skip rfl (wantF_no rfl rfl rfl rfl) ?_
    refine TF.skip rfl (wantF_no rfl rfl rfl rfl) ?_
    refine TF.u (v := (.bool _)) rfl rfl (pr_pickT rfl rfl rfl) ?_
    refine TF.nil (nx_then ?_)
    refine cw_condT (t := _) rfl rfl rfl ?_
    refine cw_seq ?_
    -- region 2 law.go:78
    refine cw_region (clf [.X, .U]) [0, 1] rfl (by kernel_rfl) ?_
    refine TF.call (args := []) Try.fn10 rfl rfl (wantF_none rfl) rfl (awake_ok _) ?_
    rintro e_ w1 ⟨rfl, hb4⟩
    refine ⟨_, rfl, ?_⟩
    replace H := H.below hb4
    refine TF.u (v := (.bool _)) rfl rfl (pr_assign rfl) ?_
    refine TF.nil (nx_then ?_)
    refine cw_ret (rt_then (fin1 (v := (.bool _)) Try.results5 rfl rfl ?_))
    exact ⟨by simp, H.base⟩
  ·
    have hp3 := dF hq3
    refine TF.ug (v := (T _)) rfl rfl (wantF_yes rfl rfl rfl hq3) (pr_move rfl) ?_
    refine TF.ug (v := (.int .i64 _)) rfl rfl (wantF_yes rfl rfl rfl hq3) (pr_slen rfl Try.underlying9 rfl) ?_
    refine TF.ug (v := (T _)) rfl rfl (wantF_yes rfl rfl rfl hq3) (pr_move rfl) ?_
    refine TF.ug (v := (.int .i64 _)) rfl rfl (wantF_yes rfl rfl rfl hq3) (pr_slen rfl Try.underlying9 rfl) ?_
    refine TF.ug (v := (.bool _)) rfl rfl (wantF_yes rfl rfl rfl hq3) (pr_neq rfl rfl) ?_
    refine TF.u (v := (.bool _)) rfl rfl (pr_pickF rfl hq3 rfl) ?_
    refine TF.u (v := (.bool _)) rfl rfl (pr_move rfl) ?_
    refine TF.split (dj := 23) rfl (fun hq6 => ?_) (fun hq6 => ?_)
    ·
      have hp6 := dF (nT hq6)
      refine TF.skip rfl (wantF_no rfl rfl rfl hq6) ?_
      refine TF.skip rfl (wantF_no rfl rfl rfl hq6) ?_
      refine TF.skip rfl (wantF_no rfl rfl rfl hq6) ?_
      refine TF.skip rfl (wantF_no rfl rfl rfl hq6) ?_
      refine TF.skip rfl (wantF_no rfl rfl rfl hq6) ?_
      refine TF.u (v := (.bool _)) rfl rfl (pr_pickT rfl hq6 rfl) ?_
      refine TF.nil (nx_then ?_)
      refine cw_condT (t := _) rfl rfl rfl ?_
      refine cw_seq ?_
      -- region 2 law.go:78
      refine cw_region (clf [.X, .U]) [0, 1] rfl (by kernel_rfl) ?_
      refine TF.call (args := []) Try.fn10 rfl rfl (wantF_none rfl) rfl (awake_ok _) ?_
      rintro e_ w1 ⟨rfl, hb7⟩
      refine ⟨_, rfl, ?_⟩
      replace H := H.below hb7
      refine TF.u (v := (.bool _)) rfl rfl (pr_assign rfl) ?_
      refine TF.nil (nx_then ?_)
      refine cw_ret (rt_then (fin1 (v := (.bool _)) Try.results5 rfl rfl ?_))
      exact ⟨by simp, H.base⟩
    ·
      have hp6 := dT (nF hq6)
      refine TF.ug (v := (T _)) rfl rfl (wantF_yes rfl rfl rfl hq6) (pr_move rfl) ?_
      refine TF.ug (v := (.int .i64 _)) rfl rfl (wantF_yes rfl rfl rfl hq6) (pr_slen rfl Try.underlying9 rfl) ?_
      refine TF.ug (v := (T _)) rfl rfl (wantF_yes rfl rfl rfl hq6) (pr_move rfl) ?_
      refine TF.ug (v := (.int .i64 _)) rfl rfl (wantF_yes rfl rfl rfl hq6) (pr_slen rfl Try.underlying9 rfl) ?_
      refine TF.ug (v := (.bool _)) rfl rfl (wantF_yes rfl rfl rfl hq6) (pr_neq rfl rfl) ?_
      refine TF.u (v := (.bool _)) rfl rfl (pr_pickF rfl hq6 rfl) ?_
      refine TF.nil (nx_then ?_)
      refine cw_cond _ rfl rfl (fun hq9 => ?_) (fun hq9 => ?_)
      ·
        have hp9 := dF (nT hq9)
        refine cw_seq ?_
        -- region 2 law.go:78
        refine cw_region (clf [.X, .U]) [0, 1] rfl (by kernel_rfl) ?_
        refine TF.call (args := []) Try.fn10 rfl rfl (wantF_none rfl) rfl (awake_ok _) ?_
        rintro e_ w1 ⟨rfl, hb10⟩
        refine ⟨_, rfl, ?_⟩
        replace H := H.below hb10
        refine TF.u (v := (.bool _)) rfl rfl (pr_assign rfl) ?_
        refine TF.nil (nx_then ?_)
        refine cw_ret (rt_then (fin1 (v := (.bool _)) Try.results5 rfl rfl ?_))
        exact ⟨by simp, H.base⟩
      ·
        have hp9 := dT (nF hq9)
        refine cw_skip (nx_then ?_)
        refine cw_seq ?_
        -- region 3 law.go:80
        refine cw_region (clf [.U, .U, .X, .U]) [0, 1, 2, 3] rfl (by kernel_rfl) ?_
        refine TF.u (v := (T _)) rfl rfl (pr_move rfl) ?_
        refine TF.u (v := (.int .i64 _)) rfl rfl (pr_slen rfl Try.underlying9 rfl) ?_
        refine TF.make (nl := a.length) (nc := a.length) (z1 := undef) H rfl (.inl rfl) (wantF_none rfl) Try.underlying25 (Try.ty5) rfl rfl (by omega) (by omega) (by unfold maxLen; omega) ?_
        clear H
        intro bk11 w hltbk11 hb12 H
        rw [made_u8] at H
        replace H := H.toOwn (q := 0) (sz := 1) (nl := a.length) (nc := a.length) rfl (by simp [u8s_len]) (by omega) (by unfold maxLen; omega)
        replace H : Sat _ _ _ [_] := H
        rw [u8s_take, Nat.mul_one, List.take_of_length_le (by simp)] at H
        refine TF.u (v := (.slice _ _ _)) rfl rfl (pr_assign rfl) ?_
        refine TF.nil (nx_then ?_)
        refine cw_seq ?_
        refine cw_seq ?_
        -- region 4 law.go:81
        refine cw_region (clf [.U]) [0] rfl (by kernel_rfl) ?_
        refine TF.u (v := (.int .i64 _)) rfl rfl (pr_assign rfl) ?_
        refine TF.nil (nx_then ?_)
        refine cw_block ?_
        refine cw_loop (fun m f w => ∃ (g_ : Nat → Value) (i : Nat) (xs : List UInt8), m = a.length - i ∧ f = (upd (upd (upd (upd (upd g_ 0 (T a)) 1 (T b)) 2 (T c)) 7 (.slice (some ⟨bk11, 0, none⟩) a.length a.length)) 8 (.int .i64 (i : Int))) ∧ Sat [] w0 w [cOwnB 5 (some ⟨bk11, 0, none⟩) a.length a.length xs] ∧ i ≤ a.length ∧ xs.length = a.length ∧ ∀ j, j < i → xs.getD j 0 = a.getD j 0 ^^^ b.getD j 0 ^^^ c.getD j 0) (a.length - 0) ?_ ?_
        ·
          exact ⟨_, 0, _, rfl, (cutS (cutS (cutS (cutS (cutS rfl rfl) rfl) rfl) rfl) rfl), H, Nat.zero_le _, List.length_replicate, fun j hj => by omega⟩
        ·
          clear H
          rintro m_ f_ w ⟨g_, i, xs, rfl, rfl, H, hi, hx1, hx2⟩
          refine cw_seq ?_
          refine cw_seq ?_
          -- region 5 law.go:81
          refine cw_region (clf [.U, .U, .U, .U]) [0, 1, 2, 3] rfl (by kernel_rfl) ?_
          refine TF.u (v := (.int .i64 _)) rfl rfl (pr_move rfl) ?_
          refine TF.u (v := (T _)) rfl rfl (pr_move rfl) ?_
          refine TF.u (v := (.int .i64 _)) rfl rfl (pr_slen rfl Try.underlying9 rfl) ?_
          refine TF.u (v := (.bool _)) rfl rfl (pr_lss rfl rfl) ?_
          refine TF.nil (nx_then ?_)
          refine cw_cond _ rfl rfl (fun hq14 => ?_) (fun hq14 => ?_)
          ·
            have hp14 := dT hq14
            refine cw_skip (nx_then ?_)
            refine cw_seq ?_
            refine cw_block ?_
            -- region 7 law.go:82
            refine cw_drawS H Try.wide_ (clf [.U, .U, .U, .U, .U, .U, .U, .U, .U, .U, .U, .U, .U, .U, .X]) [0, 1, 2, 3, 4, 5, 6, 7, 8, 9, 10, 11, 12, 13, 14] (by kernel_rfl) (by kernel_rfl) ?_
            clear H
            intro wr hbr H hB
            have Hr := H
            refine TF.u (v := (.slice _ _ _)) rfl rfl (pr_move rfl) ?_
            refine TF.u (v := (.int .i64 _)) rfl rfl (pr_move rfl) ?_
            refine TF.u (v := (T _)) rfl rfl (pr_move rfl) ?_
            refine TF.u (v := (.int .i64 _)) rfl rfl (pr_move rfl) ?_
            refine TF.u (v := (.int .u8 _)) rfl rfl (pr_sindex Try.underlying9 rfl rfl (by omega) (by omega) rfl) ?_
            refine TF.u (v := (T _)) rfl rfl (pr_move rfl) ?_
            refine TF.u (v := (.int .i64 _)) rfl rfl (pr_move rfl) ?_
            refine TF.u (v := (.int .u8 _)) rfl rfl (pr_sindex Try.underlying9 rfl rfl (by omega) (by omega) rfl) ?_
            refine TF.u (v := (.int .u8 _)) rfl rfl (pr_xor rfl rfl (x8 _ _)) ?_
            refine TF.u (v := (T _)) rfl rfl (pr_move rfl) ?_
            refine TF.u (v := (.int .i64 _)) rfl rfl (pr_move rfl) ?_
            refine TF.u (v := (.int .u8 _)) rfl rfl (pr_sindex Try.underlying9 rfl rfl (by omega) (by omega) rfl) ?_
            refine TF.u (v := (.int .u8 _)) rfl rfl (pr_xor rfl rfl (x8 _ _)) ?_
            refine TF.u (v := (.pointer (some ⟨bk11, _, none⟩))) rfl rfl (pr_idxO (b := bk11) (o' := _) Try.underlying25 (Try.ty5.s) rfl rfl (by omega) (by omega) (Nat.mul_one _)) ?_
            refine TF.storeO (v := (u8 _)) (q := 0) H rfl rfl rfl (wantF_none rfl) (Try.ty5.s) rfl rfl rfl (by simp; omega) ?_
            clear H
            intro w ho17 H
            replace H : Sat _ _ _ [_] := H
            rw [u8s_set] at H
            clear Hr hB
            refine TF.nil (nx_block (nx_then ?_))
            -- region 6 law.go:81
            refine cw_region (clf [.U, .U, .U]) [0, 1, 2] rfl (by kernel_rfl) ?_
            refine TF.u (v := (.int .i64 _)) rfl rfl (pr_move rfl) ?_
            refine TF.u (v := (.int .i64 _)) rfl rfl (pr_add rfl rfl (IntWalk.i64_in _ (by omega))) ?_
            refine TF.u (v := (.int .i64 _)) rfl rfl (pr_assign rfl) ?_
            refine TF.nil (nx_loop (m' := a.length - (i + 1)) (by omega) ?_)
            exact ⟨_, i + 1, _, rfl, (cutS (cutS (cutS (cutS (cutS rfl rfl) rfl) rfl) rfl) rfl), H, by omega, by simpa using hx1, set_upto hx1 (by omega) hx2⟩
          ·
            have hp14 := dF hq14
            refine cw_exit (ex_then (ex_then (ex_here (nx_then ?_))))
            refine cw_seq ?_
            -- region 8 law.go:84
            refine cw_region (clf [.U, .X, .X, .U, .X, .X, .U, .U, .X, .X, .U, .U, .X, .U, .U, .U]) [0, 1, 2, 3, 4, 5, 6, 7, 8, 9, 10, 11, 12, 13, 14, 15] rfl (by kernel_rfl) ?_
            refine TF.u (v := (T _)) rfl rfl (pr_move rfl) ?_
            refine TF.tobytes H rfl (.inl rfl) (wantF_none rfl) Try.underlying9 Try.underlying25 Try.underlying5 rfl (by unfold maxLen; first | omega | (simp only [List.length_append]; omega)) ?_
            clear H
            intro Aow18 cow18 w hcapow18 hb19 H
            refine TF.call (args := [(.slice _ _ _)]) Try.fn11 rfl rfl (wantF_none rfl) rfl (of_ok _ _ _ _ _ (H.rd (k := 0) rfl) (by first | omega | (simp only [List.length_append]; omega))) ?_
            rintro e_ w1 ⟨rfl, hb20⟩
            refine ⟨_, rfl, ?_⟩
            replace H := H.below hb20
            refine TF.u (v := (T _)) rfl rfl (pr_move rfl) ?_
            refine TF.tobytes H rfl (.inl rfl) (wantF_none rfl) Try.underlying9 Try.underlying25 Try.underlying5 rfl (by unfold maxLen; first | omega | (simp only [List.length_append]; omega)) ?_
            clear H
            intro Aow21 cow21 w hcapow21 hb22 H
            refine TF.call (args := [(.slice _ _ _)]) Try.fn11 rfl rfl (wantF_none rfl) rfl (of_ok _ _ _ _ _ (H.rd (k := 0) rfl) (by first | omega | (simp only [List.length_append]; omega))) ?_
            rintro e_ w1 ⟨rfl, hb23⟩
            refine ⟨_, rfl, ?_⟩
            replace H := H.below hb23
            refine TF.u (v := (.int .u32 _)) rfl rfl (pr_xor rfl rfl (x32 _ _)) ?_
            refine TF.u (v := (T _)) rfl rfl (pr_move rfl) ?_
            refine TF.tobytes H rfl (.inl rfl) (wantF_none rfl) Try.underlying9 Try.underlying25 Try.underlying5 rfl (by unfold maxLen; first | omega | (simp only [List.length_append]; omega)) ?_
            clear H
            intro Aow24 cow24 w hcapow24 hb25 H
            refine TF.call (args := [(.slice _ _ _)]) Try.fn11 rfl rfl (wantF_none rfl) rfl (of_ok _ _ _ _ _ (H.rd (k := 0) rfl) (by first | omega | (simp only [List.length_append]; omega))) ?_
            rintro e_ w1 ⟨rfl, hb26⟩
            refine ⟨_, rfl, ?_⟩
            replace H := H.below hb26
            refine TF.u (v := (.int .u32 _)) rfl rfl (pr_xor rfl rfl (x32 _ _)) ?_
            refine TF.u (v := (.slice _ _ _)) rfl rfl (pr_move rfl) ?_
            refine TF.call (args := [(.slice _ _ _)]) Try.fn11 rfl rfl (wantF_none rfl) rfl (of_ok _ _ _ _ _ (H.rd (k := 3) rfl) (by first | omega | (simp only [List.length_append]; omega))) ?_
            rintro e_ w1 ⟨rfl, hb27⟩
            refine ⟨_, rfl, ?_⟩
            replace H := H.below hb27
            refine TF.u (v := (.int .u32 _)) rfl rfl (pr_xor rfl rfl (x32 _ _)) ?_
            refine TF.u (v := (.bool _)) rfl rfl (pr_eql rfl rfl) ?_
            refine TF.u (v := (.bool _)) rfl rfl (pr_assign rfl) ?_
            refine TF.nil (nx_then ?_)
            refine cw_ret (fin1 (v := (.bool _)) Try.results5 rfl rfl ?_)
            obtain rfl : i = a.length := by omega
            exact ⟨by rw [toNat0 (sums4 (by omega) (by omega) hx1 hx2)]; rfl, H.base⟩
end Go.Proofs.Ytmfepnngjpmljaa
namespace Go.Proofs.Ytmfepnngjpmljaa
open Go.ChangeShapes Go.WideShapes Go.ChangeAt Go.RowKit
open Go.ChangeMaps (open_string shut_string)
theorem sumLinear_own : ownKnob Try.prog.godebug = none := by kernel_rfl
set_option maxRecDepth 100000 in
theorem sumLinear_lifted (os : Os) (started : os.Started) (H : Type) (enc : TypeId × Value → H) :
    ReturnsInHanded {} Try.checked os 5 .any (Rows.sumLinearSpec.pre6 enc Try.prog Try.f5 Rows.sumLinearRow.domain false) (Rows.sumLinearSpec.post enc Try.prog Try.f5 false true false false) := by
  refine returnsInHanded_of_change_sized (C := Try.checked) sumLinear_own started (by kernel_rfl) Try.func5
    (ChangeSpec.witness6 (enc := enc) (C := Try.checked) false ⟨#[], #[.string .empty, .string .empty, .string .empty], []⟩ 8 (by kernel_rfl) (by kernel_rfl) (by kernel_rfl) (by kernel_rfl)) ?_
  intro W base args ds gs before hval0 hW hcnd hsz0 _
  have hval : ∀ (j : Nat) t v, Try.f5.params[j]? = some t → args[j]? = some v → Value.okWide Try.prog W .any base t v := hval0
  have hW' := hW
  obtain ⟨p, q, hA0, hV, rfl, hfz, hnd⟩ := hW
  have hA : DataW.TrodAll enc Try.prog W 0 (fun _ => true) true Try.f5.params.toList args.toList ds p := hA0
  have hsz : (DataW.weightsEach Try.prog (Try.f5.params.toList ++ Rows.sumLinearSpec.plain.varTypes Try.prog) (ds ++ gs)).all (· ≤ reachBytes) = true := hsz0
  rw [Try.params5] at hA hval hsz
  obtain ⟨v0, vs0, d0, ds0, p0, q0, hargs, rfl, rfl, h0, r0⟩ := trodAll_cons hA
  obtain ⟨v1, vs1, d1, ds1, p1, q1, rfl, rfl, rfl, h1, r1⟩ := trodAll_cons r0
  obtain ⟨v2, vs2, d2, ds2, p2, q2, rfl, rfl, rfl, h2, r2⟩ := trodAll_cons r1
  obtain ⟨rfl, rfl, rfl⟩ := trodAll_nil r2
  obtain rfl : args = #[v0, v1, v2] := by cases args; simp_all
  obtain ⟨rfl, rfl⟩ := trodVars_none hV
  obtain ⟨a0, rfl, rfl, rfl, m0⟩ := open_string Try.underlying9 (hval 0 9 v0 rfl rfl) h0
  have z0 : a0.data.toList.length ≤ 140737488351232 := sized_string hsz (j := 0) rfl rfl
  obtain ⟨a1, rfl, rfl, rfl, m1⟩ := open_string Try.underlying9 (hval 1 9 v1 rfl rfl) h1
  have z1 : a1.data.toList.length ≤ 140737488351232 := sized_string hsz (j := 1) rfl rfl
  obtain ⟨a2, rfl, rfl, rfl, m2⟩ := open_string Try.underlying9 (hval 2 9 v2 rfl rfl) h2
  have z2 : a2.data.toList.length ≤ 140737488351232 := sized_string hsz (j := 2) rfl rfl
  clear hA0 hval0
  refine (SumLinear_ok a0.data.toList a1.data.toList a2.data.toList W z0 z1 z2).mono fun e W' ⟨he, bel⟩ => ?_
  subst he
  exact ⟨_, rfl, _, _, _, [], _, [], hW', trodAll_mk1 (shut_bool Try.underlying4 _), (trodAll_cons_mk (shut_string Try.underlying9 m0) (trodAll_cons_mk (shut_string Try.underlying9 m1) (trodAll_cons_mk (shut_string Try.underlying9 m2) trodAll_mk0))), rfl, bel.frame _, fun h => by cases h⟩
theorem sumLinear_holds : Rows.SumLinearSaid :=
  OpenClaim.holds_of_wide 5 Try.f5 rfl rfl rfl rfl rfl rfl rfl ⟨rfl, rfl, rfl, rfl, rfl⟩ rfl rfl rfl rfl rfl (by kernel_rfl) Try.func5 (by kernel_rfl)
    (of_decide_eq_true (by kernel_rfl)) (by unfold Func.isWrapper; first | (rw [if_pos (by decide +kernel)]; kernel_rfl) | (rw [if_neg (by decide +kernel)]; exact ⟨rfl, rfl⟩))
    (fun os started H enc _ => sumLinear_lifted os started H enc)
end Go.Proofs.Ytmfepnngjpmljaa
