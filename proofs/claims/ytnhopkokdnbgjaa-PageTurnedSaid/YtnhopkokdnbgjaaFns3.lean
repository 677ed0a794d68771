/- What the functions of this seat compute, each walked once (no condition but those in each statement): quaysidelaw04.awake -/
import Derived.Test.YtnhopkokdnbgjaaCore7
import Derived.Test.YtnhopkokdnbgjaaMath
import Derived.Test.YtnhopkokdnbgjaaMath1
import Derived.Test.YtnhopkokdnbgjaaCrc
import Derived.Test.YtnhopkokdnbgjaaCrc2
import Derived.Test.YtnhopkokdnbgjaaCrc3
import Derived.Test.YtnhopkokdnbgjaaCore8
import Derived.Test.YtnhopkokdnbgjaaCore9
import Derived.Test.YtnhopkokdnbgjaaCore10
import Derived.Test.YtnhopkokdnbgjaaCore11
import Derived.Test.YtnhopkokdnbgjaaPage
import Derived.Test.YtnhopkokdnbgjaaPageV
import Derived.Test.YtnhopkokdnbgjaaArgs
import Derived.Test.YtnhopkokdnbgjaaPage2
import Derived.Test.YtnhopkokdnbgjaaArgsP
import Derived.Test.YtnhopkokdnbgjaaProg
import Derived.KernelRfl
import Derived.Test.YtnhopkokdnbgjaaFns2
set_option linter.unusedSimpArgs false
set_option linter.unusedVariables false
set_option maxRecDepth 10000
namespace Go.Proofs.Ytnhopkokdnbgjaa
open Go.Q Go.RowKit Go.Proofs
theorem Try.fn11 : Fnc Try.prog 11 Try.f11 := ⟨Try.func11, by kernel_rfl, by kernel_rfl⟩
theorem awake_ok (w0 : World) : Calls Try.prog 10 #[] w0 fun e w => e = .returned (.bool true) ∧ Below w0.heap.size w0 w := by
  refine enter (args := []) Try.func10 rfl Try.ntmps10 rfl ?_
  have H := Sat.start w0
  refine cw_seq ?_
  -- region 0 law.go:11
  refine cw_region (clf [.U]) [0] rfl (by kernel_rfl) (by decide) ?_
  refine TF.u (v := (.bool _)) rfl rfl (pr_assign rfl) ?_
  refine TF.nil (nx_then ?_)
  refine cw_seq ?_
  -- region 1 law.go:12
  refine cw_region (clf [.U, .X, .U, .U, .U, .U, .U]) [0, 1, 2, 3, 4, 5, 6] rfl (by kernel_rfl) (by decide) ?_
  refine TF.u (v := (.agg ⟨pgV (PG.mk 7 noPg.cells)⟩)) rfl rfl (pr_build (cs := pgV (PG.mk 7 noPg.cells)) Try.bld27 rfl rfl) ?_
  refine TF.call (args := [(.int .i64 _), (.agg ⟨pgV (PG.mk 7 noPg.cells)⟩)]) Try.fn11 rfl rfl (wantF_none rfl) rfl (encode_ok (3) (PG.mk 7 noPg.cells) (noPg_ok.setLsn (by decide)) _ (by omega) (by omega)) ?_
  rintro e_ w ⟨A1, n1, c1, rfl, hn1⟩
  refine ⟨_, rfl, ?_⟩
  replace H := H.newS hn1
  refine TF.u (v := (.tuple _)) rfl rfl (pr_move rfl) ?_
  refine TF.u (v := (.slice _ _ _)) rfl rfl (pr_extract (vs := _) rfl rfl) ?_
  refine TF.u (v := (.int .i64 _)) rfl rfl (pr_extract (vs := _) rfl rfl) ?_
  refine TF.u (v := (.slice _ _ _)) rfl rfl (pr_assign rfl) ?_
  refine TF.u (v := (.int .i64 _)) rfl rfl (pr_assign rfl) ?_
  refine TF.nil (nx_then ?_)
  refine cw_seq ?_
  -- region 2 law.go:13
  refine cw_region (clf [.U, .U, .U, .U, .U, .U, .U, .U, .U, .U, .X, .U, .U, .U, .U, .U, .X, .U, .U, .U, .U, .U, .X, .U, .U, .U, .U, .U, .X, .U, .U, .U]) [0, 1, 2, 3, 4, 5, 6, 7, 8, 9, 10, 11, 12, 13, 14, 15, 16, 17, 18, 19, 20, 21, 22, 23, 24, 25, 26, 27, 28, 29, 30, 31] rfl (by kernel_rfl) (by decide) ?_
  have e1 : encS 3 ⟨7, noPg.cells⟩ = (imageS 3 ⟨7, noPg.cells⟩, 0) := encS_yes (by decide) (by decide)
  rw [e1] at H ⊢
  have hl2 := (H.rdB (k := 0) rfl).length
  have hl3 := imageS_len (id := 3) (p := ⟨7, noPg.cells⟩) rfl (by decide)
  simp only at hl2
  refine TF.u (v := (.int .i64 _)) rfl rfl (pr_move rfl) ?_
  refine TF.u (v := (.bool _)) rfl rfl (pr_eql rfl rfl) ?_
  refine TF.u (v := (.bool _)) rfl rfl (pr_move rfl) ?_
  refine TF.split (dj := 10) rfl ?_ (fun hq4 => by
      have hp4 := dF hq4
      exfalso
      first | omega | exact hp4 rfl | exact hp4 (by decide) | (simp at hp4; done))
  intro hq4
  have hp4 := dT hq4
  refine TF.ug (v := (.slice _ _ _)) rfl rfl (wantF_yes rfl rfl rfl hq4) (pr_move rfl) ?_
  refine TF.ug (v := (.int .i64 _)) rfl rfl (wantF_yes rfl rfl rfl hq4) (pr_len rfl Try.underlying29 rfl) ?_
  refine TF.ug (v := (.bool _)) rfl rfl (wantF_yes rfl rfl rfl hq4) (pr_eql rfl rfl) ?_
  refine TF.u (v := (.bool _)) rfl rfl (pr_pickT rfl hq4 rfl) ?_
  refine TF.u (v := (.bool _)) rfl rfl (pr_move rfl) ?_
  refine TF.split (dj := 15) rfl ?_ (fun hq6 => by
      have hp6 := dF hq6
      exfalso
      first | omega | exact hp6 rfl | exact hp6 (by decide) | (simp at hp6; done))
  intro hq6
  have hp6 := dT hq6
  refine TF.ug (v := (.slice _ _ _)) rfl rfl (wantF_yes rfl rfl rfl hq6) (pr_move rfl) ?_
  refine TF.idxB (H.rd (k := 0) rfl) rfl rfl (wantF_yes rfl rfl rfl hq6) Try.underlying29 (Try.ty5.s) rfl rfl (by omega) (by omega) ?_
  intro p7 hc8
  refine TF.load (v := (.int .u8 _)) rfl rfl (wantF_yes rfl rfl rfl hq6) Try.underlying5 rfl rfl hc8 ?_
  refine TF.ug (v := (.bool _)) rfl rfl (wantF_yes rfl rfl rfl hq6) (pr_eql rfl rfl) ?_
  refine TF.u (v := (.bool _)) rfl rfl (pr_pickT rfl hq6 rfl) ?_
  refine TF.u (v := (.bool _)) rfl rfl (pr_move rfl) ?_
  refine TF.split (dj := 21) rfl ?_ (fun hq10 => by
      have hp10 := dF hq10
      exfalso
      first | omega | exact hp10 rfl | exact hp10 (by decide) | (simp at hp10; done))
  intro hq10
  have hp10 := dT hq10
  refine TF.ug (v := (.slice _ _ _)) rfl rfl (wantF_yes rfl rfl rfl hq10) (pr_move rfl) ?_
  refine TF.idxB (H.rd (k := 0) rfl) rfl rfl (wantF_yes rfl rfl rfl hq10) Try.underlying29 (Try.ty5.s) rfl rfl (by omega) (by omega) ?_
  intro p11 hc12
  refine TF.load (v := (.int .u8 _)) rfl rfl (wantF_yes rfl rfl rfl hq10) Try.underlying5 rfl rfl hc12 ?_
  refine TF.ug (v := (.bool _)) rfl rfl (wantF_yes rfl rfl rfl hq10) (pr_eql rfl rfl) ?_
  refine TF.u (v := (.bool _)) rfl rfl (pr_pickT rfl hq10 rfl) ?_
  refine TF.u (v := (.bool _)) rfl rfl (pr_move rfl) ?_
  refine TF.split (dj := 27) rfl ?_ (fun hq14 => by
      have hp14 := dF hq14
      exfalso
      first | omega | exact hp14 rfl | exact hp14 (by decide) | (simp at hp14; done))
  intro hq14
  have hp14 := dT hq14
  refine TF.ug (v := (.slice _ _ _)) rfl rfl (wantF_yes rfl rfl rfl hq14) (pr_move rfl) ?_
  refine TF.idxB (H.rd (k := 0) rfl) rfl rfl (wantF_yes rfl rfl rfl hq14) Try.underlying29 (Try.ty5.s) rfl rfl (by omega) (by omega) ?_
  intro p15 hc16
  refine TF.load (v := (.int .u8 _)) rfl rfl (wantF_yes rfl rfl rfl hq14) Try.underlying5 rfl rfl hc16 ?_
  refine TF.ug (v := (.bool _)) rfl rfl (wantF_yes rfl rfl rfl hq14) (pr_eql rfl rfl) ?_
  refine TF.u (v := (.bool _)) rfl rfl (pr_pickT rfl hq14 rfl) ?_
  refine TF.u (v := (.bool _)) rfl rfl (pr_move rfl) ?_
  refine TF.split (dj := 33) rfl ?_ (fun hq18 => by
      have hp18 := dF hq18
      exfalso
      first | omega | exact hp18 rfl | exact hp18 (by decide) | (simp at hp18; done))
  intro hq18
  have hp18 := dT hq18
  refine TF.ug (v := (.slice _ _ _)) rfl rfl (wantF_yes rfl rfl rfl hq18) (pr_move rfl) ?_
  refine TF.idxB (H.rd (k := 0) rfl) rfl rfl (wantF_yes rfl rfl rfl hq18) Try.underlying29 (Try.ty5.s) rfl rfl (by omega) (by omega) ?_
  intro p19 hc20
  refine TF.load (v := (.int .u8 _)) rfl rfl (wantF_yes rfl rfl rfl hq18) Try.underlying5 rfl rfl hc20 ?_
  refine TF.ug (v := (.bool _)) rfl rfl (wantF_yes rfl rfl rfl hq18) (pr_eql rfl rfl) ?_
  refine TF.u (v := (.bool _)) rfl rfl (pr_pickT rfl hq18 rfl) ?_
  refine TF.u (v := (.bool _)) rfl rfl (pr_assign rfl) ?_
  refine TF.nil (nx_then ?_)
  refine cw_ret (fin1 (v := (.bool _)) Try.results10 rfl rfl ?_)
  exact ⟨by rw [show decide _ = true from by decide +kernel], H.base⟩
end Go.Proofs.Ytnhopkokdnbgjaa
