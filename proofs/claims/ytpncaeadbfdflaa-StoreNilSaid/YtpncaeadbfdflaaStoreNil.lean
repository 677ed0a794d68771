/- The given statement Rows.StoreNilSaid: quayside/quaysidelaw10.StoreNil returns true for all arguments, and leaves its arguments as they were. No further condition. -/
import Derived.Test.YtpncaeadbfdflaaFns6
import Derived.Test.YtpncaeadbfdflaaRows
import Derived.Test.YtpncaeadbfdflaaPage2
import Derived.Test.YtpncaeadbfdflaaArgsP
import Derived.Test.YtpncaeadbfdflaaCore12
import Derived.Test.YtpncaeadbfdflaaPage3
import Derived.Test.YtpncaeadbfdflaaCore13
import Derived.Test.YtpncaeadbfdflaaCore14
import Derived.Test.YtpncaeadbfdflaaStore
import Derived.Test.YtpncaeadbfdflaaStoreV
import Derived.Test.YtpncaeadbfdflaaStoreR
import Derived.Test.YtpncaeadbfdflaaStoreS
import Derived.Test.YtpncaeadbfdflaaStoreL
import Derived.Test.YtpncaeadbfdflaaStoreW
import Derived.Test.YtpncaeadbfdflaaStoreX
import Derived.Test.YtpncaeadbfdflaaArgs
import Derived.WalkKit
import Derived.ProofKit
import Derived.OpenShut
import Derived.ShutString
import Derived.ChangeOld
import Derived.Below
import Derived.SizedLaws
import Derived.JoinedCond
set_option linter.unusedSimpArgs false
set_option linter.unusedVariables false
set_option maxRecDepth 10000
namespace Go.Proofs.Ytpncaeadbfdflaa
open Go.Q Go.RowKit Go.Proofs
theorem Try.fn10 : Fnc Try.prog 10 Try.f10 := ⟨Try.func10, by kernel_rfl, by kernel_rfl⟩
theorem StoreNil_ok (o : OP) (zero : Bool) (w0 : World) (ok_o : OpOk o) :
    Calls Try.prog 8 #[.agg ⟨opV o⟩, .bool zero] w0 fun e w => e = .returned (.bool true) ∧ Below w0.heap.size w0 w := by
  obtain ⟨o1, o2, o3, o4, o5, o6, o7, o8, o9⟩ := (show OpOk o from ok_o)
  refine enter (args := [.agg ⟨opV o⟩, .bool zero]) Try.func8 rfl Try.ntmps8 rfl ?_
  have H := Sat.start w0
  refine cw_seq ?_
  -- region 0 law.go:221
  refine cw_region (clf [.X, .U]) [0, 1] rfl (by kernel_rfl) (by decide) ?_
  refine TF.box (v := (.agg ⟨opV o⟩)) H rfl (Cx.xx rfl) (wantF_none rfl) rfl rfl ?_
  clear H
  intro bk1 w hltbk1 hb2 H
  refine TF.u (v := (.bool _)) rfl rfl (pr_assign rfl) ?_
  refine TF.nil (nx_then ?_)
  refine cw_seq ?_
  refine cw_seq ?_
  -- region 1 law.go:222
  refine cw_region (clf [.X, .U]) [0, 1] rfl (by kernel_rfl) (by decide) ?_
  refine TF.call (args := []) Try.fn10 rfl rfl (wantF_none rfl) rfl (awake_ok _) ?_
  rintro e_ w ⟨rfl, hb3⟩
  refine ⟨_, rfl, ?_⟩
  replace H := H.below hb3
  refine TF.u (v := (.bool _)) rfl rfl (pr_not rfl) ?_
  refine TF.nil (nx_then ?_)
  refine cw_condF (t := _) rfl rfl rfl ?_
  refine cw_skip (nx_then ?_)
  refine cw_seq ?_
  -- region 3 law.go:225
  refine cw_region (clf [.U]) [0] rfl (by kernel_rfl) (by decide) ?_
  refine TF.u (v := (.pointer _)) rfl rfl (pr_assign rfl) ?_
  refine TF.nil (nx_then ?_)
  refine cw_seq ?_
  refine cw_seq ?_
  -- region 4 law.go:226
  refine cw_region (clf [.U]) [0] rfl (by kernel_rfl) (by decide) ?_
  refine TF.u (v := (.bool _)) rfl rfl (pr_move rfl) ?_
  refine TF.nil (nx_then ?_)
  refine cw_cond _ rfl rfl (fun hq4 => ?_) (fun hq4 => ?_)
  ·
    have hp4 := hq4
    -- region 5 law.go:227
    refine cw_region (clf [.U, .X, .U]) [0, 1, 2] rfl (by kernel_rfl) (by decide) ?_
    refine TF.u (v := (.agg ⟨sbV noSB⟩)) rfl rfl (pr_build (cs := sbV noSB) Try.bld65 rfl rfl) ?_
    refine TF.box (v := (.agg ⟨sbV noSB⟩)) H rfl (Cx.xx rfl) (wantF_none rfl) rfl rfl ?_
    clear H
    intro bk5 w hltbk5 hb6 H
    refine TF.u (v := (.pointer (some ⟨_, 0, none⟩))) rfl rfl (pr_assign rfl) ?_
    refine TF.nil (nx_then ?_)
    refine cw_seq ?_
    -- region 6 law.go:229
    refine cw_region (clf [.U, .U, .X, .X, .U, .U, .U, .X, .X, .U]) [0, 1, 2, 3, 4, 5, 6, 7, 8, 9] rfl (by kernel_rfl) (by decide) ?_
    refine TF.u (v := (.pointer (some ⟨_, 0, none⟩))) rfl rfl (pr_move rfl) ?_
    refine TF.u (v := (.pointer (some ⟨_, 2, none⟩))) rfl rfl (pr_field (o' := 2) Try.underlying43 rfl (Try.ty3.s) (by decide) rfl rfl) ?_
    refine TF.load (v := (.int .i64 o.i)) rfl rfl (wantF_none rfl) Try.underlying3 rfl rfl ((H.blk (k := 1) rfl).at_ rfl) ?_
    refine TF.call (args := [(.pointer (some ⟨_, 0, none⟩)), (.int .i64 o.i)]) Try.fn15 rfl rfl (wantF_none rfl) rfl (sread_no _ _ (.inr ⟨_, rfl, H.blk (k := 0) rfl⟩) _) ?_
    rintro e_ w ⟨rfl, hb7⟩
    refine ⟨_, rfl, ?_⟩
    replace H := H.below hb7
    refine TF.u (v := (.tuple _)) rfl rfl (pr_move rfl) ?_
    refine TF.u (v := (.agg ⟨pgV noPg⟩)) rfl rfl (pr_extract (vs := _) rfl rfl) ?_
    refine TF.u (v := (.int .i64 _)) rfl rfl (pr_extract (vs := _) rfl rfl) ?_
    refine TF.alloc H rfl (Cx.xx rfl) (wantF_none rfl) (Try.ty27) rfl ?_
    clear H
    intro bk9 w hltbk9 hb10 H
    replace H : Sat _ _ _ (cBlk _ _ (pgV noPg) :: _) := H
    replace H : Sat _ _ _ [_, _, _] := H
    refine TF.storeN (q := 0) (cs' := pgV noPg) H rfl rfl rfl (wantF_none rfl) (Try.ty27.s) rfl rfl (pgV_len noPg_ok.len) (pgV_one _) (by have h_ : (pgV noPg).length = 17 := (pgV_len noPg_ok.len); omega) (store_all (pgV_len noPg_ok.len)) ?_
    clear H
    intro w ho11 H
    replace H : Sat _ _ _ [_, _, _] := H
    refine TF.u (v := (.int .i64 _)) rfl rfl (pr_assign rfl) ?_
    refine TF.nil (nx_then ?_)
    refine cw_seq ?_
    -- region 7 law.go:230
    refine cw_region (clf [.U, .U, .X, .X, .U, .U, .U, .U, .U]) [0, 1, 2, 3, 4, 5, 6, 7, 8] rfl (by kernel_rfl) (by decide) ?_
    refine TF.u (v := (.pointer (some ⟨_, 0, none⟩))) rfl rfl (pr_move rfl) ?_
    refine TF.u (v := (.pointer (some ⟨_, 2, none⟩))) rfl rfl (pr_field (o' := 2) Try.underlying43 rfl (Try.ty3.s) (by decide) rfl rfl) ?_
    refine TF.load (v := (.int .i64 o.i)) rfl rfl (wantF_none rfl) Try.underlying3 rfl rfl ((H.blk (k := 2) rfl).at_ rfl) ?_
    refine TF.call (args := [(.pointer (some ⟨_, 0, none⟩)), (.int .i64 o.i)]) Try.fn14 rfl rfl (wantF_none rfl) rfl (simage_no _ _ (.inr ⟨_, rfl, H.blk (k := 1) rfl⟩) _) ?_
    rintro e_ w ⟨rfl, hb12⟩
    refine ⟨_, rfl, ?_⟩
    replace H := H.below hb12
    refine TF.u (v := (.tuple _)) rfl rfl (pr_move rfl) ?_
    refine TF.u (v := (.slice _ _ _)) rfl rfl (pr_extract (vs := _) rfl rfl) ?_
    refine TF.u (v := (.int .i64 _)) rfl rfl (pr_extract (vs := _) rfl rfl) ?_
    refine TF.u (v := (.slice _ _ _)) rfl rfl (pr_assign rfl) ?_
    refine TF.u (v := (.int .i64 _)) rfl rfl (pr_assign rfl) ?_
    refine TF.nil (nx_then ?_)
    refine cw_seq ?_
    refine cw_seq ?_
    -- region 8 law.go:231
    refine cw_region (clf [.U, .U, .U, .U, .U, .U, .U, .U, .U, .U, .U, .U, .U, .U, .X, .U, .X, .U, .X, .U, .X, .X, .U, .U]) [0, 1, 2, 3, 4, 5, 6, 7, 8, 9, 10, 11, 12, 13, 14, 15, 16, 17, 18, 19, 20, 21, 22, 23] rfl (by kernel_rfl) (by decide) ?_
    refine TF.u (v := (.int .i64 _)) rfl rfl (pr_move rfl) ?_
    refine TF.u (v := (.bool _)) rfl rfl (pr_neq rfl rfl) ?_
    refine TF.u (v := (.bool _)) rfl rfl (pr_move rfl) ?_
    refine TF.split (dj := 31) rfl (fun hq15 => by
        have hp15 := dF (nT hq15)
        exfalso
        first | omega | exact hp15 rfl | exact hp15 (by decide) | (simp at hp15; done) | (simp at hp15; omega)) ?_
    intro hq15
    have hp15 := dT (nF hq15)
    refine TF.ug (v := (.int .i64 _)) rfl rfl (wantF_yes rfl rfl rfl hq15) (pr_move rfl) ?_
    refine TF.ug (v := (.bool _)) rfl rfl (wantF_yes rfl rfl rfl hq15) (pr_neq rfl rfl) ?_
    refine TF.u (v := (.bool _)) rfl rfl (pr_pickF rfl hq15 rfl) ?_
    refine TF.u (v := (.bool _)) rfl rfl (pr_move rfl) ?_
    refine TF.split (dj := 35) rfl (fun hq17 => by
        have hp17 := dF (nT hq17)
        exfalso
        first | omega | exact hp17 rfl | exact hp17 (by decide) | (simp at hp17; done) | (simp at hp17; omega)) ?_
    intro hq17
    have hp17 := dT (nF hq17)
    refine TF.ug (v := (.slice _ _ _)) rfl rfl (wantF_yes rfl rfl rfl hq17) (pr_move rfl) ?_
    refine TF.ug (v := (.int .i64 _)) rfl rfl (wantF_yes rfl rfl rfl hq17) (pr_len rfl Try.underlying34 rfl) ?_
    refine TF.ug (v := (.bool _)) rfl rfl (wantF_yes rfl rfl rfl hq17) (pr_neq rfl rfl) ?_
    refine TF.u (v := (.bool _)) rfl rfl (pr_pickF rfl hq17 rfl) ?_
    refine TF.u (v := (.bool _)) rfl rfl (pr_move rfl) ?_
    refine TF.split (dj := 40) rfl (fun hq19 => by
        have hp19 := dF (nT hq19)
        exfalso
        first | omega | exact hp19 rfl | exact hp19 (by decide) | (simp at hp19; done) | (simp at hp19; omega)) ?_
    intro hq19
    have hp19 := dT (nF hq19)
    refine TF.ug (v := (.pointer (some ⟨_, 0, none⟩))) rfl rfl (wantF_yes rfl rfl rfl hq19) (pr_move rfl) ?_
    refine TF.ug (v := (.pointer (some ⟨_, 1, none⟩))) rfl rfl (wantF_yes rfl rfl rfl hq19) (pr_field (o' := 1) Try.underlying43 rfl (Try.ty3.s) (by decide) rfl rfl) ?_
    refine TF.load (v := (.int .i64 o.n)) rfl rfl (wantF_yes rfl rfl rfl hq19) Try.underlying3 rfl rfl ((H.blk (k := 2) rfl).at_ rfl) ?_
    refine TF.ug (v := (.pointer (some ⟨_, 2, none⟩))) rfl rfl (wantF_yes rfl rfl rfl hq19) (pr_field (o' := 2) Try.underlying43 rfl (Try.ty3.s) (by decide) rfl rfl) ?_
    refine TF.load (v := (.int .i64 o.i)) rfl rfl (wantF_yes rfl rfl rfl hq19) Try.underlying3 rfl rfl ((H.blk (k := 2) rfl).at_ rfl) ?_
    refine TF.ug (v := (.pointer (some ⟨_, 4, none⟩))) rfl rfl (wantF_yes rfl rfl rfl hq19) (pr_field (o' := 4) Try.underlying43 rfl (Try.ty27.s) (by decide) rfl rfl) ?_
    refine TF.loadE (cs' := pgV o.p) rfl rfl (wantF_yes rfl rfl rfl hq19) (Try.ty27.s) rfl rfl (H.blk (k := 2) rfl) (pgV_len ok_o.p.len) (opV_page ok_o.p.len) ?_
    refine TF.ug (v := (.pointer (some ⟨_, 3, none⟩))) rfl rfl (wantF_yes rfl rfl rfl hq19) (pr_field (o' := 3) Try.underlying43 rfl (Try.ty3.s) (by decide) rfl rfl) ?_
    refine TF.load (v := (.int .i64 o.m)) rfl rfl (wantF_yes rfl rfl rfl hq19) Try.underlying3 rfl rfl ((H.blk (k := 2) rfl).at_ rfl) ?_
    refine TF.call (args := [(.pointer (some ⟨_, 0, none⟩)), (.int .i64 o.n), (.int .i64 o.i), (.agg ⟨pgV o.p⟩), (.int .i64 o.m)]) Try.fn13 rfl rfl (wantF_yes rfl rfl rfl hq19) rfl (swrite_no _ _ (.inr ⟨_, rfl, H.blk (k := 1) rfl⟩) _ _ _ o.p ok_o.p (by omega) (by omega)) ?_
    rintro e_ w ⟨rfl, hb20⟩
    refine ⟨_, rfl, ?_⟩
    replace H := H.below hb20
    refine TF.ug (v := (.bool _)) rfl rfl (wantF_yes rfl rfl rfl hq19) (pr_neq rfl rfl) ?_
    refine TF.u (v := (.bool _)) rfl rfl (pr_pickF rfl hq19 rfl) ?_
    refine TF.nil (nx_then ?_)
    refine cw_cond _ rfl rfl (fun hq23 => by
        have hp23 := dF (nT hq23)
        exfalso
        first | omega | exact hp23 rfl | exact hp23 (by decide) | (simp at hp23; done) | (simp at hp23; omega)) ?_
    intro hq23
    have hp23 := dT (nF hq23)
    refine cw_skip (nx_then ?_)
    refine cw_seq ?_
    -- region 10 law.go:234
    refine cw_region (clf [.U, .U, .X, .U, .X, .X, .U, .U, .U, .X, .U, .U, .U, .U, .U, .X, .X, .U, .U, .U]) [0, 1, 2, 3, 4, 5, 6, 7, 8, 9, 10, 11, 12, 13, 14, 15, 16, 17, 18, 19] rfl (by kernel_rfl) (by decide) ?_
    refine TF.u (v := (.pointer (some ⟨_, 0, none⟩))) rfl rfl (pr_move rfl) ?_
    refine TF.u (v := (.pointer (some ⟨_, 1, none⟩))) rfl rfl (pr_field (o' := 1) Try.underlying43 rfl (Try.ty3.s) (by decide) rfl rfl) ?_
    refine TF.load (v := (.int .i64 o.n)) rfl rfl (wantF_none rfl) Try.underlying3 rfl rfl ((H.blk (k := 2) rfl).at_ rfl) ?_
    refine TF.u (v := (.pointer (some ⟨_, 3, none⟩))) rfl rfl (pr_field (o' := 3) Try.underlying43 rfl (Try.ty3.s) (by decide) rfl rfl) ?_
    refine TF.load (v := (.int .i64 o.m)) rfl rfl (wantF_none rfl) Try.underlying3 rfl rfl ((H.blk (k := 2) rfl).at_ rfl) ?_
    refine TF.call (args := [(.pointer (some ⟨_, 0, none⟩)), (.int .i64 o.n), (.int .i64 o.m)]) Try.fn16 rfl rfl (wantF_none rfl) rfl (smend_no _ _ (.inr ⟨_, rfl, H.blk (k := 1) rfl⟩) _ _ (by omega) (by omega)) ?_
    rintro e_ w ⟨rfl, hb24⟩
    refine ⟨_, rfl, ?_⟩
    replace H := H.below hb24
    refine TF.u (v := (.bool _)) rfl rfl (pr_eql rfl rfl) ?_
    refine TF.u (v := (.bool _)) rfl rfl (pr_move rfl) ?_
    refine TF.split (dj := 60) rfl ?_ (fun hq27 => by
        have hp27 := dF hq27
        exfalso
        first | omega | exact hp27 rfl | exact hp27 (by decide) | (simp at hp27; done) | (simp at hp27; omega))
    intro hq27
    have hp27 := dT hq27
    refine TF.ug (v := (.pointer (some ⟨_, 0, none⟩))) rfl rfl (wantF_yes rfl rfl rfl hq27) (pr_move rfl) ?_
    refine TF.call (args := [(.pointer (some ⟨_, 0, none⟩))]) Try.fn17 rfl rfl (wantF_yes rfl rfl rfl hq27) rfl (spages_no _ _ (.inr ⟨_, rfl, H.blk (k := 1) rfl⟩) ) ?_
    rintro e_ w ⟨rfl, hb28⟩
    refine ⟨_, rfl, ?_⟩
    replace H := H.below hb28
    refine TF.ug (v := (.bool _)) rfl rfl (wantF_yes rfl rfl rfl hq27) (pr_eql rfl rfl) ?_
    refine TF.u (v := (.bool _)) rfl rfl (pr_pickT rfl hq27 rfl) ?_
    refine TF.u (v := (.bool _)) rfl rfl (pr_move rfl) ?_
    refine TF.split (dj := 65) rfl ?_ (fun hq31 => by
        have hp31 := dF hq31
        exfalso
        first | omega | exact hp31 rfl | exact hp31 (by decide) | (simp at hp31; done) | (simp at hp31; omega))
    intro hq31
    have hp31 := dT hq31
    refine TF.ug (v := (.pointer (some ⟨_, 0, none⟩))) rfl rfl (wantF_yes rfl rfl rfl hq31) (pr_move rfl) ?_
    refine TF.ug (v := (.pointer (some ⟨_, 1, none⟩))) rfl rfl (wantF_yes rfl rfl rfl hq31) (pr_field (o' := 1) Try.underlying43 rfl (Try.ty3.s) (by decide) rfl rfl) ?_
    refine TF.load (v := (.int .i64 o.n)) rfl rfl (wantF_yes rfl rfl rfl hq31) Try.underlying3 rfl rfl ((H.blk (k := 2) rfl).at_ rfl) ?_
    refine TF.call (args := [(.pointer (some ⟨_, 0, none⟩)), (.int .i64 o.n)]) Try.fn18 rfl rfl (wantF_yes rfl rfl rfl hq31) rfl (sout_no _ _ (.inr ⟨_, rfl, H.blk (k := 1) rfl⟩) _) ?_
    rintro e_ w ⟨rfl, hb32⟩
    refine ⟨_, rfl, ?_⟩
    replace H := H.below hb32
    refine TF.ug (v := (.bool _)) rfl rfl (wantF_yes rfl rfl rfl hq31) (pr_not rfl) ?_
    refine TF.u (v := (.bool _)) rfl rfl (pr_pickT rfl hq31 rfl) ?_
    refine TF.u (v := (.bool _)) rfl rfl (pr_assign rfl) ?_
    refine TF.nil (nx_then ?_)
    refine cw_ret (fin1 (v := (.bool _)) Try.results8 rfl rfl ?_)
    exact ⟨by first | rfl | (simp; done) | decide, H.base⟩
  ·
    have hp4 := hq4
    refine cw_skip (nx_then ?_)
    refine cw_seq ?_
    -- region 6 law.go:229
    refine cw_region (clf [.U, .U, .X, .X, .U, .U, .U, .X, .X, .U]) [0, 1, 2, 3, 4, 5, 6, 7, 8, 9] rfl (by kernel_rfl) (by decide) ?_
    refine TF.u (v := (.pointer _)) rfl rfl (pr_move rfl) ?_
    refine TF.u (v := (.pointer (some ⟨_, 2, none⟩))) rfl rfl (pr_field (o' := 2) Try.underlying43 rfl (Try.ty3.s) (by decide) rfl rfl) ?_
    refine TF.load (v := (.int .i64 o.i)) rfl rfl (wantF_none rfl) Try.underlying3 rfl rfl ((H.blk (k := 0) rfl).at_ rfl) ?_
    refine TF.call (args := [(.pointer _), (.int .i64 o.i)]) Try.fn15 rfl rfl (wantF_none rfl) rfl (sread_no _ _ (.inl rfl) _) ?_
    rintro e_ w ⟨rfl, hb34⟩
    refine ⟨_, rfl, ?_⟩
    replace H := H.below hb34
    refine TF.u (v := (.tuple _)) rfl rfl (pr_move rfl) ?_
    refine TF.u (v := (.agg ⟨pgV noPg⟩)) rfl rfl (pr_extract (vs := _) rfl rfl) ?_
    refine TF.u (v := (.int .i64 _)) rfl rfl (pr_extract (vs := _) rfl rfl) ?_
    refine TF.alloc H rfl (Cx.xx rfl) (wantF_none rfl) (Try.ty27) rfl ?_
    clear H
    intro bk36 w hltbk36 hb37 H
    replace H : Sat _ _ _ (cBlk _ _ (pgV noPg) :: _) := H
    replace H : Sat _ _ _ [_, _] := H
    refine TF.storeN (q := 0) (cs' := pgV noPg) H rfl rfl rfl (wantF_none rfl) (Try.ty27.s) rfl rfl (pgV_len noPg_ok.len) (pgV_one _) (by have h_ : (pgV noPg).length = 17 := (pgV_len noPg_ok.len); omega) (store_all (pgV_len noPg_ok.len)) ?_
    clear H
    intro w ho38 H
    replace H : Sat _ _ _ [_, _] := H
    refine TF.u (v := (.int .i64 _)) rfl rfl (pr_assign rfl) ?_
    refine TF.nil (nx_then ?_)
    refine cw_seq ?_
    -- region 7 law.go:230
    refine cw_region (clf [.U, .U, .X, .X, .U, .U, .U, .U, .U]) [0, 1, 2, 3, 4, 5, 6, 7, 8] rfl (by kernel_rfl) (by decide) ?_
    refine TF.u (v := (.pointer _)) rfl rfl (pr_move rfl) ?_
    refine TF.u (v := (.pointer (some ⟨_, 2, none⟩))) rfl rfl (pr_field (o' := 2) Try.underlying43 rfl (Try.ty3.s) (by decide) rfl rfl) ?_
    refine TF.load (v := (.int .i64 o.i)) rfl rfl (wantF_none rfl) Try.underlying3 rfl rfl ((H.blk (k := 1) rfl).at_ rfl) ?_
    refine TF.call (args := [(.pointer _), (.int .i64 o.i)]) Try.fn14 rfl rfl (wantF_none rfl) rfl (simage_no _ _ (.inl rfl) _) ?_
    rintro e_ w ⟨rfl, hb39⟩
    refine ⟨_, rfl, ?_⟩
    replace H := H.below hb39
    refine TF.u (v := (.tuple _)) rfl rfl (pr_move rfl) ?_
    refine TF.u (v := (.slice _ _ _)) rfl rfl (pr_extract (vs := _) rfl rfl) ?_
    refine TF.u (v := (.int .i64 _)) rfl rfl (pr_extract (vs := _) rfl rfl) ?_
    refine TF.u (v := (.slice _ _ _)) rfl rfl (pr_assign rfl) ?_
    refine TF.u (v := (.int .i64 _)) rfl rfl (pr_assign rfl) ?_
    refine TF.nil (nx_then ?_)
    refine cw_seq ?_
    refine cw_seq ?_
    -- region 8 law.go:231
    refine cw_region (clf [.U, .U, .U, .U, .U, .U, .U, .U, .U, .U, .U, .U, .U, .U, .X, .U, .X, .U, .X, .U, .X, .X, .U, .U]) [0, 1, 2, 3, 4, 5, 6, 7, 8, 9, 10, 11, 12, 13, 14, 15, 16, 17, 18, 19, 20, 21, 22, 23] rfl (by kernel_rfl) (by decide) ?_
    refine TF.u (v := (.int .i64 _)) rfl rfl (pr_move rfl) ?_
    refine TF.u (v := (.bool _)) rfl rfl (pr_neq rfl rfl) ?_
    refine TF.u (v := (.bool _)) rfl rfl (pr_move rfl) ?_
    refine TF.split (dj := 31) rfl (fun hq42 => by
        have hp42 := dF (nT hq42)
        exfalso
        first | omega | exact hp42 rfl | exact hp42 (by decide) | (simp at hp42; done) | (simp at hp42; omega)) ?_
    intro hq42
    have hp42 := dT (nF hq42)
    refine TF.ug (v := (.int .i64 _)) rfl rfl (wantF_yes rfl rfl rfl hq42) (pr_move rfl) ?_
    refine TF.ug (v := (.bool _)) rfl rfl (wantF_yes rfl rfl rfl hq42) (pr_neq rfl rfl) ?_
    refine TF.u (v := (.bool _)) rfl rfl (pr_pickF rfl hq42 rfl) ?_
    refine TF.u (v := (.bool _)) rfl rfl (pr_move rfl) ?_
    refine TF.split (dj := 35) rfl (fun hq44 => by
        have hp44 := dF (nT hq44)
        exfalso
        first | omega | exact hp44 rfl | exact hp44 (by decide) | (simp at hp44; done) | (simp at hp44; omega)) ?_
    intro hq44
    have hp44 := dT (nF hq44)
    refine TF.ug (v := (.slice _ _ _)) rfl rfl (wantF_yes rfl rfl rfl hq44) (pr_move rfl) ?_
    refine TF.ug (v := (.int .i64 _)) rfl rfl (wantF_yes rfl rfl rfl hq44) (pr_len rfl Try.underlying34 rfl) ?_
    refine TF.ug (v := (.bool _)) rfl rfl (wantF_yes rfl rfl rfl hq44) (pr_neq rfl rfl) ?_
    refine TF.u (v := (.bool _)) rfl rfl (pr_pickF rfl hq44 rfl) ?_
    refine TF.u (v := (.bool _)) rfl rfl (pr_move rfl) ?_
    refine TF.split (dj := 40) rfl (fun hq46 => by
        have hp46 := dF (nT hq46)
        exfalso
        first | omega | exact hp46 rfl | exact hp46 (by decide) | (simp at hp46; done) | (simp at hp46; omega)) ?_
    intro hq46
    have hp46 := dT (nF hq46)
    refine TF.ug (v := (.pointer _)) rfl rfl (wantF_yes rfl rfl rfl hq46) (pr_move rfl) ?_
    refine TF.ug (v := (.pointer (some ⟨_, 1, none⟩))) rfl rfl (wantF_yes rfl rfl rfl hq46) (pr_field (o' := 1) Try.underlying43 rfl (Try.ty3.s) (by decide) rfl rfl) ?_
    refine TF.load (v := (.int .i64 o.n)) rfl rfl (wantF_yes rfl rfl rfl hq46) Try.underlying3 rfl rfl ((H.blk (k := 1) rfl).at_ rfl) ?_
    refine TF.ug (v := (.pointer (some ⟨_, 2, none⟩))) rfl rfl (wantF_yes rfl rfl rfl hq46) (pr_field (o' := 2) Try.underlying43 rfl (Try.ty3.s) (by decide) rfl rfl) ?_
    refine TF.load (v := (.int .i64 o.i)) rfl rfl (wantF_yes rfl rfl rfl hq46) Try.underlying3 rfl rfl ((H.blk (k := 1) rfl).at_ rfl) ?_
    refine TF.ug (v := (.pointer (some ⟨_, 4, none⟩))) rfl rfl (wantF_yes rfl rfl rfl hq46) (pr_field (o' := 4) Try.underlying43 rfl (Try.ty27.s) (by decide) rfl rfl) ?_
    refine TF.loadE (cs' := pgV o.p) rfl rfl (wantF_yes rfl rfl rfl hq46) (Try.ty27.s) rfl rfl (H.blk (k := 1) rfl) (pgV_len ok_o.p.len) (opV_page ok_o.p.len) ?_
    refine TF.ug (v := (.pointer (some ⟨_, 3, none⟩))) rfl rfl (wantF_yes rfl rfl rfl hq46) (pr_field (o' := 3) Try.underlying43 rfl (Try.ty3.s) (by decide) rfl rfl) ?_
    refine TF.load (v := (.int .i64 o.m)) rfl rfl (wantF_yes rfl rfl rfl hq46) Try.underlying3 rfl rfl ((H.blk (k := 1) rfl).at_ rfl) ?_
    refine TF.call (args := [(.pointer _), (.int .i64 o.n), (.int .i64 o.i), (.agg ⟨pgV o.p⟩), (.int .i64 o.m)]) Try.fn13 rfl rfl (wantF_yes rfl rfl rfl hq46) rfl (swrite_no _ _ (.inl rfl) _ _ _ o.p ok_o.p (by omega) (by omega)) ?_
    rintro e_ w ⟨rfl, hb47⟩
    refine ⟨_, rfl, ?_⟩
    replace H := H.below hb47
    refine TF.ug (v := (.bool _)) rfl rfl (wantF_yes rfl rfl rfl hq46) (pr_neq rfl rfl) ?_
    refine TF.u (v := (.bool _)) rfl rfl (pr_pickF rfl hq46 rfl) ?_
    refine TF.nil (nx_then ?_)
    refine cw_cond _ rfl rfl (fun hq50 => by
        have hp50 := dF (nT hq50)
        exfalso
        first | omega | exact hp50 rfl | exact hp50 (by decide) | (simp at hp50; done) | (simp at hp50; omega)) ?_
    intro hq50
    have hp50 := dT (nF hq50)
    refine cw_skip (nx_then ?_)
    refine cw_seq ?_
    -- region 10 law.go:234
    refine cw_region (clf [.U, .U, .X, .U, .X, .X, .U, .U, .U, .X, .U, .U, .U, .U, .U, .X, .X, .U, .U, .U]) [0, 1, 2, 3, 4, 5, 6, 7, 8, 9, 10, 11, 12, 13, 14, 15, 16, 17, 18, 19] rfl (by kernel_rfl) (by decide) ?_
    refine TF.u (v := (.pointer _)) rfl rfl (pr_move rfl) ?_
    refine TF.u (v := (.pointer (some ⟨_, 1, none⟩))) rfl rfl (pr_field (o' := 1) Try.underlying43 rfl (Try.ty3.s) (by decide) rfl rfl) ?_
    refine TF.load (v := (.int .i64 o.n)) rfl rfl (wantF_none rfl) Try.underlying3 rfl rfl ((H.blk (k := 1) rfl).at_ rfl) ?_
    refine TF.u (v := (.pointer (some ⟨_, 3, none⟩))) rfl rfl (pr_field (o' := 3) Try.underlying43 rfl (Try.ty3.s) (by decide) rfl rfl) ?_
    refine TF.load (v := (.int .i64 o.m)) rfl rfl (wantF_none rfl) Try.underlying3 rfl rfl ((H.blk (k := 1) rfl).at_ rfl) ?_
    refine TF.call (args := [(.pointer _), (.int .i64 o.n), (.int .i64 o.m)]) Try.fn16 rfl rfl (wantF_none rfl) rfl (smend_no _ _ (.inl rfl) _ _ (by omega) (by omega)) ?_
    rintro e_ w ⟨rfl, hb51⟩
    refine ⟨_, rfl, ?_⟩
    replace H := H.below hb51
    refine TF.u (v := (.bool _)) rfl rfl (pr_eql rfl rfl) ?_
    refine TF.u (v := (.bool _)) rfl rfl (pr_move rfl) ?_
    refine TF.split (dj := 60) rfl ?_ (fun hq54 => by
        have hp54 := dF hq54
        exfalso
        first | omega | exact hp54 rfl | exact hp54 (by decide) | (simp at hp54; done) | (simp at hp54; omega))
    intro hq54
    have hp54 := dT hq54
    refine TF.ug (v := (.pointer _)) rfl rfl (wantF_yes rfl rfl rfl hq54) (pr_move rfl) ?_
    refine TF.call (args := [(.pointer _)]) Try.fn17 rfl rfl (wantF_yes rfl rfl rfl hq54) rfl (spages_no _ _ (.inl rfl) ) ?_
    rintro e_ w ⟨rfl, hb55⟩
    refine ⟨_, rfl, ?_⟩
    replace H := H.below hb55
    refine TF.ug (v := (.bool _)) rfl rfl (wantF_yes rfl rfl rfl hq54) (pr_eql rfl rfl) ?_
    refine TF.u (v := (.bool _)) rfl rfl (pr_pickT rfl hq54 rfl) ?_
    refine TF.u (v := (.bool _)) rfl rfl (pr_move rfl) ?_
    refine TF.split (dj := 65) rfl ?_ (fun hq58 => by
        have hp58 := dF hq58
        exfalso
        first | omega | exact hp58 rfl | exact hp58 (by decide) | (simp at hp58; done) | (simp at hp58; omega))
    intro hq58
    have hp58 := dT hq58
    refine TF.ug (v := (.pointer _)) rfl rfl (wantF_yes rfl rfl rfl hq58) (pr_move rfl) ?_
    refine TF.ug (v := (.pointer (some ⟨_, 1, none⟩))) rfl rfl (wantF_yes rfl rfl rfl hq58) (pr_field (o' := 1) Try.underlying43 rfl (Try.ty3.s) (by decide) rfl rfl) ?_
    refine TF.load (v := (.int .i64 o.n)) rfl rfl (wantF_yes rfl rfl rfl hq58) Try.underlying3 rfl rfl ((H.blk (k := 1) rfl).at_ rfl) ?_
    refine TF.call (args := [(.pointer _), (.int .i64 o.n)]) Try.fn18 rfl rfl (wantF_yes rfl rfl rfl hq58) rfl (sout_no _ _ (.inl rfl) _) ?_
    rintro e_ w ⟨rfl, hb59⟩
    refine ⟨_, rfl, ?_⟩
    replace H := H.below hb59
    refine TF.ug (v := (.bool _)) rfl rfl (wantF_yes rfl rfl rfl hq58) (pr_not rfl) ?_
    refine TF.u (v := (.bool _)) rfl rfl (pr_pickT rfl hq58 rfl) ?_
    refine TF.u (v := (.bool _)) rfl rfl (pr_assign rfl) ?_
    refine TF.nil (nx_then ?_)
    refine cw_ret (fin1 (v := (.bool _)) Try.results8 rfl rfl ?_)
    exact ⟨by first | rfl | (simp; done) | decide, H.base⟩
end Go.Proofs.Ytpncaeadbfdflaa
namespace Go.Proofs.Ytpncaeadbfdflaa
open Go.ChangeShapes Go.WideShapes Go.ChangeAt Go.RowKit
open Go.ChangeMaps (open_string shut_string)
theorem storeNil_own : ownKnob Try.prog.godebug = none := by kernel_rfl
theorem storeNil_laid : laidOutB Try.prog = true := by kernel_rfl
set_option maxRecDepth 100000 in
theorem storeNil_lifted (os : Os) (started : os.Started) (H : Type) (enc : TypeId × Value → H) :
    ReturnsInHanded {} Try.checked os 8 .any (Rows.storeNilSpec.pre6 enc Try.prog Try.f8 Rows.storeNilRow.domain false) (Rows.storeNilSpec.post enc Try.prog Try.f8 false true false false) := by
  refine returnsInHanded_of_change_sized (C := Try.checked) storeNil_own started (by kernel_rfl) Try.func8
    (ChangeSpec.witness6 (enc := enc) (C := Try.checked) false ⟨#[], #[.agg #[(.int .i64 0), (.int .i64 0), (.int .i64 0), (.int .i64 0), (.int .u64 0), (.bool false), (.string ⟨⟨[]⟩⟩), (.bool false), (.string ⟨⟨[]⟩⟩), (.bool false), (.string ⟨⟨[]⟩⟩), (.bool false), (.string ⟨⟨[]⟩⟩), (.bool false), (.string ⟨⟨[]⟩⟩), (.bool false), (.string ⟨⟨[]⟩⟩), (.bool false), (.string ⟨⟨[]⟩⟩), (.bool false), (.string ⟨⟨[]⟩⟩)], .bool false], []⟩ 8 (by kernel_rfl) (by kernel_rfl) (by kernel_rfl) (by kernel_rfl)) ?_
  intro W base args ds gs before hval0 hW hcnd hsz0 _
  have hval : ∀ (j : Nat) t v, Try.f8.params[j]? = some t → args[j]? = some v → Value.okWide Try.prog W .any base t v := hval0
  have hW' := hW
  obtain ⟨p, q, hA0, hV, rfl, hfz, hnd⟩ := hW
  have hA : DataW.TrodAll enc Try.prog W 0 (fun _ => true) true Try.f8.params.toList args.toList ds p := hA0
  have hsz : (DataW.weightsEach Try.prog (Try.f8.params.toList ++ Rows.storeNilSpec.plain.varTypes Try.prog) (ds ++ gs)).all (· ≤ reachBytes) = true := hsz0
  rw [Try.params8] at hA hval hsz
  obtain ⟨v0, vs0, d0, ds0, p0, q0, hargs, rfl, rfl, h0, r0⟩ := trodAll_cons hA
  obtain ⟨v1, vs1, d1, ds1, p1, q1, rfl, rfl, rfl, h1, r1⟩ := trodAll_cons r0
  obtain ⟨rfl, rfl, rfl⟩ := trodAll_nil r1
  obtain rfl : args = #[v0, v1] := by cases args; simp_all
  obtain ⟨rfl, rfl⟩ := trodVars_none hV
  have k0 := h0
  have lt0 : ∀ x ∈ p0, x.block < W.heap.size := by obtain ⟨m, hm⟩ := k0; exact DataW.trod_lt m _ _ _ hm
  obtain ⟨fu0, hf0⟩ := h0
  obtain ⟨⟨l0⟩, rfl, hc0⟩ := okWide_struct Try.underlying43 (hval 0 43 v0 rfl rfl)
  obtain ⟨a0, hl0, ok0⟩ := (show Go.Q.OT enc Try.prog W 0 (fun _ => true) true 43 l0 from ⟨fu0, _, hf0⟩).op (Try.underlying43) rfl Try.underlying3 (by kernel_rfl) (fun cs_ h_ => h_.page (Try.underlying27) rfl Try.underlying22 Try.underlying25 Try.underlying24 rfl Try.underlying4 Try.underlying9 (by kernel_rfl))
  subst hl0
  obtain ⟨a1, rfl, rfl, rfl⟩ := open_bool Try.underlying4 (hval 1 4 v1 rfl rfl) h1
  clear hA0 hval0
  refine (StoreNil_ok a0 a1 W ok0).mono fun e W' ⟨he, bel⟩ => ?_
  subst he
  exact ⟨_, rfl, _, _, _, [], _, [], hW', trodAll_mk1 (shut_bool Try.underlying4 _), (trodAll_cons_mk (Below.trod storeNil_laid (by kernel_rfl) (of_decide_eq_true (by kernel_rfl)) k0 bel lt0) (trodAll_cons_mk (shut_bool Try.underlying4 _) trodAll_mk0)), rfl, bel.frame _, fun h => by cases h⟩
theorem storeNil_holds : Rows.StoreNilSaid :=
  OpenClaim.holds_of_wide 8 Try.f8 rfl rfl rfl rfl rfl rfl rfl ⟨rfl, rfl, rfl, rfl, rfl⟩ rfl rfl rfl rfl rfl (by kernel_rfl) Try.func8 (by kernel_rfl)
    (of_decide_eq_true (by kernel_rfl)) (by unfold Func.isWrapper; first | (rw [if_pos (by decide +kernel)]; kernel_rfl) | (rw [if_neg (by decide +kernel)]; exact ⟨rfl, rfl⟩))
    (fun os started H enc _ => storeNil_lifted os started H enc)
end Go.Proofs.Ytpncaeadbfdflaa
