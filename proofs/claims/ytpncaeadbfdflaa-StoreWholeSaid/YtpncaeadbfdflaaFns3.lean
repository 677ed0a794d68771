/- What the functions of this seat compute, each walked once (no condition but those in each statement): store.place).bytes, store.sectors, store.node, quaysideref10.node, store.whole, quaysideref10.Mask, store.place).lay, store.Store).Pages, store.Store).there, store.Store).busy, store.Store).Read, store.Store).Image, store.Store).Out, store.New, store.Store).Write, store.Store).Mend -/
import Derived.Test.YtpncaeadbfdflaaCore7
import Derived.Test.YtpncaeadbfdflaaMath
import Derived.Test.YtpncaeadbfdflaaMath1
import Derived.Test.YtpncaeadbfdflaaCrc
import Derived.Test.YtpncaeadbfdflaaCrc2
import Derived.Test.YtpncaeadbfdflaaCrc3
import Derived.Test.YtpncaeadbfdflaaCore8
import Derived.Test.YtpncaeadbfdflaaCore9
import Derived.Test.YtpncaeadbfdflaaCore10
import Derived.Test.YtpncaeadbfdflaaCore11
import Derived.Test.YtpncaeadbfdflaaPage
import Derived.Test.YtpncaeadbfdflaaPageV
import Derived.Test.YtpncaeadbfdflaaArgs
import Derived.Test.YtpncaeadbfdflaaPage2
import Derived.Test.YtpncaeadbfdflaaArgsP
import Derived.Test.YtpncaeadbfdflaaCore12
import Derived.Test.YtpncaeadbfdflaaPage3
import Derived.Test.YtpncaeadbfdflaaCore13
import Derived.Test.YtpncaeadbfdflaaCore14
import Derived.Test.YtpncaeadbfdflaaStore
import Derived.Test.YtpncaeadbfdflaaStoreV
import Derived.Test.YtpncaeadbfdflaaStoreR
import Derived.Test.YtpncaeadbfdflaaStoreS
import Derived.Test.YtpncaeadbfdflaaStoreL
import Derived.Test.YtpncaeadbfdflaaProg
import Derived.KernelRfl
import Derived.Test.YtpncaeadbfdflaaFns2
set_option linter.unusedSimpArgs false
set_option linter.unusedVariables false
set_option maxRecDepth 10000
namespace Go.Proofs.Ytpncaeadbfdflaa
open Go.Q Go.RowKit Go.Proofs
theorem Try.ty3 : Ty Try.prog 3 (.int .i64) (.int .i64 0) 1 8 := ty_mk (by kernel_rfl) (by kernel_rfl)
theorem Try.ty57 : Ty Try.prog 57 (.slice 60) (.slice none 0 0) 1 24 := ty_mk (by kernel_rfl) (by kernel_rfl)
theorem Try.ty58 : Ty Try.prog 58 (.array 128 5) (.agg ⟨u8s zeroS⟩) 128 128 := ty_mk (by kernel_rfl) (by kernel_rfl)
theorem Try.ty60 : Ty Try.prog 60 (.array 2 58) (.agg ⟨u8s zeroP⟩) 256 256 := ty_mk (by kernel_rfl) (by kernel_rfl)
theorem Try.ty62 : Ty Try.prog 62 (.struct (match Try.prog.underlying 62 with | some (.struct fs) => fs | _ => #[])) (.agg ⟨areaV noAr⟩) 258 272 := ty_mk (by kernel_rfl) (by kernel_rfl)
theorem Try.sz58 : Sz Try.prog 58 (.array 128 5) 128 := sz_mk (by kernel_rfl) (by kernel_rfl)
theorem Try.sz60 : Sz Try.prog 60 (.array 2 58) 256 := sz_mk (by kernel_rfl) (by kernel_rfl)
theorem Try.sz62 : Sz Try.prog 62 (.struct (match Try.prog.underlying 62 with | some (.struct fs) => fs | _ => #[])) 258 := sz_mk (by kernel_rfl) (by kernel_rfl)
theorem Try.sz63 : Sz Try.prog 63 (.array 8 62) 2064 := sz_mk (by kernel_rfl) (by kernel_rfl)
theorem Try.bld65 : Bld Try.prog 65 (sbV noSB) [(0, 1), (1, 2064)] := bld_mk (by kernel_rfl)
theorem Try.fn17 : Fnc Try.prog 17 Try.f17 := ⟨Try.func17, by kernel_rfl, by kernel_rfl⟩
theorem Try.fn26 : Fnc Try.prog 26 Try.f26 := ⟨Try.func26, by kernel_rfl, by kernel_rfl⟩
theorem Try.fn27 : Fnc Try.prog 27 Try.f27 := ⟨Try.func27, by kernel_rfl, by kernel_rfl⟩
theorem Try.fn28 : Fnc Try.prog 28 Try.f28 := ⟨Try.func28, by kernel_rfl, by kernel_rfl⟩
theorem Try.fn29 : Fnc Try.prog 29 Try.f29 := ⟨Try.func29, by kernel_rfl, by kernel_rfl⟩
theorem Try.fn30 : Fnc Try.prog 30 Try.f30 := ⟨Try.func30, by kernel_rfl, by kernel_rfl⟩
theorem Try.fn31 : Fnc Try.prog 31 Try.f31 := ⟨Try.func31, by kernel_rfl, by kernel_rfl⟩
theorem Try.fn33 : Fnc Try.prog 33 Try.f33 := ⟨Try.func33, by kernel_rfl, by kernel_rfl⟩
theorem Try.fn34 : Fnc Try.prog 34 Try.f34 := ⟨Try.func34, by kernel_rfl, by kernel_rfl⟩
theorem Try.fn44 : Fnc Try.prog 44 Try.f44 := ⟨Try.func44, by kernel_rfl, by kernel_rfl⟩
theorem plbytes_ok (x : List UInt8) (w0 : World) (hx : x.length = 256) :
    Calls Try.prog 33 #[.agg ⟨u8s x⟩] w0 fun e w => ∃ A1 n1 c1, e = .returned (.slice A1 n1 c1) ∧ NewB w0 w 5 A1 n1 c1 x := by
  refine enter (args := [.agg ⟨u8s x⟩]) Try.func33 rfl Try.ntmps33 rfl ?_
  have H := Sat.start w0
  refine cw_seq ?_
  -- region 0 store.go:37
  refine cw_region (clf [.X, .U]) [0, 1] rfl (by kernel_rfl) (by decide) ?_
  refine TF.box (v := (.agg ⟨u8s x⟩)) H rfl (Cx.xx rfl) (wantF_none rfl) rfl rfl ?_
  clear H
  intro bk1 w hltbk1 hb2 H
  refine TF.u (v := (.slice _ _ _)) rfl rfl (pr_assign rfl) ?_
  refine TF.nil (nx_then ?_)
  refine cw_seq ?_
  -- region 1 store.go:38
  refine cw_region (clf [.X, .U]) [0, 1] rfl (by kernel_rfl) (by decide) ?_
  refine TF.make (nl := 0) (nc := 256) (z1 := undef) H rfl (Cx.xx rfl) (wantF_none rfl) Try.underlying34 (Try.ty5) rfl rfl (by omega) (by omega) (by unfold maxLen; omega) ?_
  clear H
  intro bk3 w hltbk3 hb4 H
  rw [made_u8] at H
  replace H := H.toOwn0 (q := 0) (sz := 1) (nc := 256) rfl (by simp [u8s_len]) (by unfold maxLen; omega)
  replace H : Sat _ _ _ [_, _] := H
  refine TF.u (v := (.slice _ _ _)) rfl rfl (pr_assign rfl) ?_
  refine TF.nil (nx_then ?_)
  refine cw_seq ?_
  refine cw_seq ?_
  -- region 2 store.go:39
  refine cw_region (clf [.X, .U]) [0, 1] rfl (by kernel_rfl) (by decide) ?_
  refine TF.loadE (cs' := u8s x) rfl rfl (wantF_none rfl) (Try.sz60) rfl rfl (H.blk (k := 1) rfl) (u8s_len256 hx) (u8s_all hx) ?_
  refine TF.u (v := (.int .i64 _)) rfl rfl (pr_move rfl) ?_
  refine TF.nil (nx_then ?_)
  refine cw_block ?_
  refine cw_loop (fun m_q f_q w => ∃ (g_ : Nat → Value) (i : Nat) (A1 : Option Addr) (c1 : Nat), m_q = 2 - i ∧ f_q = (upd (upd (upd g_ 3 (.slice A1 (i * 128) c1)) 7 (.agg ⟨u8s x⟩)) 8 (.int .i64 (i : Int))) ∧ Sat [] w0 w [cOwnB 5 A1 (i * 128) c1 (x.take (i * 128))] ∧ (i ≤ 2)) (2 - 0) ?_ ?_
  ·
    exact ⟨_, 0, _, _, rfl, (cutS (cutS (cutS rfl rfl) rfl) rfl), (by rw [Nat.zero_mul, List.take_zero]; exact H.del 1), Nat.zero_le _⟩
  ·
    clear H
    rintro m_ f_ w ⟨g_, i, A1, c1, rfl, rfl, H, hi⟩
    refine cw_seq ?_
    -- region 3 store.go:39
    refine cw_region (clf [.U]) [0] rfl (by kernel_rfl) (by decide) ?_
    refine TF.u (v := (.bool _)) rfl rfl (pr_lss rfl rfl) ?_
    refine TF.nil (nx_then ?_)
    refine cw_seq ?_
    refine cw_cond _ rfl rfl (fun hq6 => ?_) (fun hq6 => ?_)
    ·
      have hp6 := dT hq6
      refine cw_skip (nx_then ?_)
      refine cw_seq ?_
      refine cw_block ?_
      refine cw_seq ?_
      -- region 4 store.go:39
      refine cw_region (clf [.U, .X, .X]) [0, 1, 2] rfl (by kernel_rfl) (by decide) ?_
      refine TF.u (v := (.agg ⟨u8s ((x.drop (i * 128)).take 128)⟩)) rfl rfl (pr_idxVE (cs' := u8s ((x.drop (i * 128)).take 128)) Try.underlying60 (Try.sz58) rfl rfl rfl (by omega) (by omega) (u8s_sec _ _ _)) ?_
      skip
      refine TF.alloc H rfl (Cx.xx rfl) (wantF_none rfl) (Try.ty58) rfl ?_
      clear H
      intro bk7 w hltbk7 hb8 H
      replace H : Sat _ _ _ (cBlk _ _ (u8s zeroS) :: _) := H
      replace H : Sat _ _ _ [_, _] := H
      refine TF.storeN (q := 0) (cs' := u8s ((x.drop (i * 128)).take 128)) H rfl rfl rfl (wantF_none rfl) (Try.sz58) rfl rfl (u8s_len128 (sec_len hx (by omega))) (u8s_one' _) (by have h_ : (u8s zeroS).length = 128 := (u8s_len128 rfl); omega) (store_all (u8s_len128 rfl)) ?_
      clear H
      intro w ho9 H
      replace H : Sat _ _ _ [_, _] := H
      refine TF.nil (nx_then ?_)
      -- region 5 store.go:40
      refine cw_region (clf [.U, .U, .X, .U]) [0, 1, 2, 3] rfl (by kernel_rfl) (by decide) ?_
      refine TF.u (v := (.slice _ _ _)) rfl rfl (pr_move rfl) ?_
      refine TF.u (v := (.slice (some ⟨_, 0, none⟩) 128 128)) rfl rfl (pr_cutArr Try.underlying58 (Try.ty5.s) rfl) ?_
      refine TF.append (q := 1) (v := (.slice _ _ _)) H rfl rfl rfl (wantF_none rfl) Try.underlying34 (Try.ty5) rfl Try.underlying34 (.inr ⟨_, rfl⟩) rfl rfl (Src.rdB ((H.blk (k := 0) rfl).rdB (o := 0) (m := 128) (c := 128) (ds := ((x.drop (i * 128)).take 128)) (by rw [(sec_len hx (by omega))]; omega) (Nat.le_refl _) (by unfold maxLen; omega) (take_all0 (sec_len hx (by omega))))) (by unfold maxLen; first | omega | (simp only [List.length_append, List.length_cons, List.length_nil]; omega)) (by first | omega | (simp only [List.length_append, List.length_cons, List.length_nil]; omega)) ?_
      clear H
      intro Aout_10 cout_10 w ho10 H
      replace H : Sat _ _ _ [_, _] := H
      rw [← u8s_app, take_sec] at H
      refine TF.u (v := (.slice _ _ _)) rfl rfl (pr_assign rfl) ?_
      refine TF.nil (nx_block (nx_then ?_))
      -- region 6 store.go:39
      refine cw_region (clf [.U, .U]) [0, 1] rfl (by kernel_rfl) (by decide) ?_
      refine TF.u (v := (.int .i64 _)) rfl rfl (pr_add rfl rfl (IntWalk.i64_in _ (by omega))) ?_
      refine TF.u (v := (.int .i64 _)) rfl rfl (pr_move rfl) ?_
      refine TF.nil (nx_loop (m' := 2 - (i + 1)) (by omega) ?_)
      exact ⟨_, i + 1, _, _, rfl, (cutS (cutS (cutS rfl (by rw [Nat.succ_mul]; rfl)) rfl) rfl), (by have h_ := H.del 0; rw [Nat.succ_mul] at h_ ⊢; exact h_), by omega⟩
    ·
      have hp6 := dF hq6
      refine cw_exit (ex_then (ex_then (ex_here (nx_then ?_))))
      refine cw_seq ?_
      -- region 7 store.go:42
      refine cw_region (clf [.U, .U]) [0, 1] rfl (by kernel_rfl) (by decide) ?_
      obtain rfl : i = 2 := by omega
      rw [List.take_of_length_le (show x.length ≤ 2 * 128 by omega)] at H
      refine TF.u (v := (.slice _ _ _)) rfl rfl (pr_move rfl) ?_
      refine TF.u (v := (.slice _ _ _)) rfl rfl (pr_assign rfl) ?_
      refine TF.nil (nx_then ?_)
      refine cw_ret (fin1 (v := (.slice _ _ _)) Try.results33 rfl rfl ?_)
      exact ⟨_, _, _, rfl, H.toNew (k := 0) rfl⟩

theorem sectors_ok (id : Int) (p : PG) (ok : POk p) (w0 : World) (h1 : -9223372036854775808 ≤ id) (h2 : id ≤ 9223372036854775807) :
    Calls Try.prog 27 #[.int .i64 id, .agg ⟨pgV p⟩] w0 fun e w => e = .returned (.tuple #[.agg ⟨u8s (secS id p).1⟩, .int .i64 (secS id p).2]) ∧ Below w0.heap.size w0 w := by
  refine enter (args := [.int .i64 id, .agg ⟨pgV p⟩]) Try.func27 rfl Try.ntmps27 rfl ?_
  have H := Sat.start w0
  refine cw_seq ?_
  -- region 0 store.go:26
  refine cw_region (clf [.X, .X, .U]) [0, 1, 2] rfl (by kernel_rfl) (by decide) ?_
  refine TF.box (v := (.agg ⟨pgV p⟩)) H rfl (Cx.xx rfl) (wantF_none rfl) rfl rfl ?_
  clear H
  intro bk1 w hltbk1 hb2 H
  refine TF.alloc H rfl (Cx.xx rfl) (wantF_none rfl) (Try.ty60) rfl ?_
  clear H
  intro bk3 w hltbk3 hb4 H
  replace H : Sat _ _ _ (cBlk _ _ (u8s zeroP) :: _) := H
  replace H : Sat _ _ _ [_, _] := H
  refine TF.u (v := (.int .i64 _)) rfl rfl (pr_assign rfl) ?_
  refine TF.nil (nx_then ?_)
  refine cw_seq ?_
  -- region 1 store.go:27
  refine cw_region (clf [.X]) [0] rfl (by kernel_rfl) (by decide) ?_
  refine TF.alloc H rfl (Cx.xx rfl) (wantF_none rfl) (Try.ty60) rfl ?_
  clear H
  intro bk5 w hltbk5 hb6 H
  replace H : Sat _ _ _ (cBlk _ _ (u8s zeroP) :: _) := H
  replace H : Sat _ _ _ [_, _, _] := H
  refine TF.nil (nx_then ?_)
  refine cw_seq ?_
  -- region 2 store.go:28
  refine cw_region (clf [.U, .X, .X, .U, .U, .U, .U, .U]) [0, 1, 2, 3, 4, 5, 6, 7] rfl (by kernel_rfl) (by decide) ?_
  refine TF.u (v := (.int .i64 _)) rfl rfl (pr_move rfl) ?_
  refine TF.loadE (cs' := pgV p) rfl rfl (wantF_none rfl) (Try.ty27.s) rfl rfl (H.blk (k := 2) rfl) (pgV_len ok.len) (pgV_all ok.len) ?_
  refine TF.call (args := [(.int .i64 _), (.agg ⟨pgV p⟩)]) Try.fn44 rfl rfl (wantF_none rfl) rfl (encode_ok _ p ok _ (by omega) (by omega)) ?_
  rintro e_ w ⟨A7, n7, c7, rfl, hn7⟩
  refine ⟨_, rfl, ?_⟩
  replace H := H.newS hn7
  refine TF.u (v := (.tuple _)) rfl rfl (pr_move rfl) ?_
  refine TF.u (v := (.slice _ _ _)) rfl rfl (pr_extract (vs := _) rfl rfl) ?_
  refine TF.u (v := (.int .i64 _)) rfl rfl (pr_extract (vs := _) rfl rfl) ?_
  refine TF.u (v := (.slice _ _ _)) rfl rfl (pr_assign rfl) ?_
  refine TF.u (v := (.int .i64 _)) rfl rfl (pr_assign rfl) ?_
  refine TF.nil (nx_then ?_)
  refine cw_seq ?_
  refine cw_seq ?_
  -- region 3 store.go:29
  refine cw_region (clf [.U, .U]) [0, 1] rfl (by kernel_rfl) (by decide) ?_
  refine TF.u (v := (.int .i64 _)) rfl rfl (pr_move rfl) ?_
  refine TF.u (v := (.bool _)) rfl rfl (pr_neq rfl rfl) ?_
  refine TF.nil (nx_then ?_)
  refine cw_cond _ rfl rfl (fun hq10 => ?_) (fun hq10 => ?_)
  ·
    have hp10 := dF (nT hq10)
    refine cw_seq ?_
    -- region 4 store.go:30
    refine cw_region (clf [.X, .U, .X, .U]) [0, 1, 2, 3] rfl (by kernel_rfl) (by decide) ?_
    refine TF.loadE (cs' := u8s zeroP) rfl rfl (wantF_none rfl) (Try.sz60) rfl rfl (H.blk (k := 1) rfl) (u8s_len256 rfl) (u8s_all rfl) ?_
    refine TF.u (v := (.int .i64 _)) rfl rfl (pr_move rfl) ?_
    refine TF.storeN (q := 2) (cs' := u8s zeroP) H rfl rfl rfl (wantF_none rfl) (Try.sz60) rfl rfl (u8s_len256 rfl) (u8s_one' _) (by have h_ : (u8s zeroP).length = 256 := (u8s_len256 rfl); omega) (store_all (u8s_len256 rfl)) ?_
    clear H
    intro w ho11 H
    replace H : Sat _ _ _ [_, _, _, _] := H
    refine TF.u (v := (.int .i64 _)) rfl rfl (pr_assign rfl) ?_
    refine TF.nil (nx_then ?_)
    refine cw_ret (rt_then (finC2 (v := (.int .i64 _)) (cs := u8s zeroP) Try.results27 rfl rfl (Try.sz60) rfl rfl (H.blk (k := 2) rfl) (u8s_len256 rfl) rfl ?_))
    rw [secS_no (by assumption)]
    exact ⟨rfl, H.base⟩
  ·
    have hp10 := dT (nF hq10)
    refine cw_skip (nx_then ?_)
    refine cw_seq ?_
    -- region 5 store.go:32
    refine cw_drawS H Try.wide_ (clf [.U, .U, .U, .U, .X]) [0, 1, 2, 3, 4] (by kernel_rfl) (by kernel_rfl) ?_
    clear H
    intro w hbr H hB
    obtain ⟨hnum, hr, hen⟩ := encS_ok (id := id) (p := p) (by assumption)
    rw [hen] at H
    have him := imageS_len (id := id.toNat) ok.len hr
    have hz := (H.rdB (k := 0) rfl).length
    have hzc := (H.rdB (k := 0) rfl).cap
    refine TF.u (v := (.pointer (some ⟨_, 0, none⟩))) rfl rfl (pr_idxA (a := 0) Try.underlying60 (Try.sz58) rfl rfl (by omega) (by omega)) ?_
    refine TF.u (v := (.slice (some ⟨_, 0, none⟩) 128 128)) rfl rfl (pr_cutArr Try.underlying58 (Try.ty5.s) rfl) ?_
    refine TF.u (v := (.slice _ _ _)) rfl rfl (pr_move rfl) ?_
    refine TF.u (v := (.slice _ _ _)) rfl rfl (pr_cut (l := 0) (h := 128) (mm := c7) Try.underlying34 (Try.ty5.s) rfl (.inl ⟨rfl, rfl⟩) (.inr ⟨_, _, rfl, rfl⟩) (.inl ⟨rfl, rfl⟩) (by omega) (by omega) (by omega) (n' := 128) (c' := c7) (by omega) (by omega)) ?_
    have hcut12 := RdB.cut (lo := 0) (hi := 128) (m := c7) (n' := 128) (c' := c7) (H.rd (k := 0) rfl) (by omega) (by omega) (by omega) (by omega) (by omega) (by omega)
    refine TF.copyK (q := 1) (vs' := u8s ((imageS id.toNat p).take 128 ++ zeroP.drop 128)) (m' := 128) H rfl rfl rfl (wantF_none rfl) Try.underlying34 (Try.ty5.s) rfl rfl (fun _ => rfl) (by rfl) (first_rdB hcut12 (by omega)) (fun _ => u8s_one) (by rw [u8s_len256 (show zeroP.length = 256 from rfl)]; simp only [u8s_len, List.length_take, List.length_drop]; omega) (sec1 him) ?_
    clear H
    intro w ho13 H
    replace H : Sat _ _ _ [_, _, _, _] := H
    clear hB
    refine TF.nil (nx_then ?_)
    refine cw_seq ?_
    -- region 6 store.go:33
    refine cw_drawS H Try.wide_ (clf [.U, .U, .U, .U, .X]) [0, 1, 2, 3, 4] (by kernel_rfl) (by kernel_rfl) ?_
    clear H
    intro w hbr H hB
    refine TF.u (v := (.pointer (some ⟨_, 128, none⟩))) rfl rfl (pr_idxA (a := 1) Try.underlying60 (Try.sz58) rfl rfl (by omega) (by omega)) ?_
    refine TF.u (v := (.slice (some ⟨_, 128, none⟩) 128 128)) rfl rfl (pr_cutArr Try.underlying58 (Try.ty5.s) rfl) ?_
    refine TF.u (v := (.slice _ _ _)) rfl rfl (pr_move rfl) ?_
    refine TF.u (v := (.slice _ _ _)) rfl rfl (pr_cut (l := 128) (h := n7) (mm := c7) Try.underlying34 (Try.ty5.s) rfl (.inr ⟨_, _, rfl, rfl⟩) (.inl ⟨rfl, rfl, rfl⟩) (.inl ⟨rfl, rfl⟩) (by omega) (by omega) (by omega) (n' := (n7 - 128)) (c' := (c7 - 128)) (by omega) (by omega)) ?_
    have hcut14 := RdB.cut (lo := 128) (hi := n7) (m := c7) (n' := (n7 - 128)) (c' := (c7 - 128)) (H.rd (k := 0) rfl) (by omega) (by omega) (by omega) (by omega) (by omega) (by omega)
    refine TF.copyK (q := 1) (vs' := u8s (imageS id.toNat p)) (m' := 128) H rfl rfl rfl (wantF_none rfl) Try.underlying34 (Try.ty5.s) rfl rfl (fun _ => rfl) (by omega) (first_rdB hcut14 (by omega)) (fun _ => u8s_one) (by simp only [u8s_len, List.length_append, List.length_take, List.length_drop, zeroP, List.length_replicate, him]; omega) (by rw [show n7 - 128 = 128 by omega]; exact sec2 him) ?_
    clear H
    intro w ho15 H
    replace H : Sat _ _ _ [_, _, _, _] := H
    clear hB
    refine TF.nil (nx_then ?_)
    refine cw_seq ?_
    -- region 7 store.go:34
    refine cw_region (clf [.X, .X, .U]) [0, 1, 2] rfl (by kernel_rfl) (by decide) ?_
    refine TF.loadE (cs' := u8s (imageS id.toNat p)) rfl rfl (wantF_none rfl) (Try.sz60) rfl rfl (H.blk (k := 1) rfl) (u8s_len256 him) (u8s_all him) ?_
    refine TF.storeN (q := 2) (cs' := u8s (imageS id.toNat p)) H rfl rfl rfl (wantF_none rfl) (Try.sz60) rfl rfl (u8s_len256 him) (u8s_one' _) (by have h_ : (u8s zeroP).length = 256 := (u8s_len256 rfl); omega) (store_all (u8s_len256 rfl)) ?_
    clear H
    intro w ho16 H
    replace H : Sat _ _ _ [_, _, _, _] := H
    refine TF.u (v := (.int .i64 _)) rfl rfl (pr_assign rfl) ?_
    refine TF.nil (nx_then ?_)
    refine cw_ret (finC2 (v := (.int .i64 _)) (cs := u8s (imageS id.toNat p)) Try.results27 rfl rfl (Try.sz60) rfl rfl (H.blk (k := 2) rfl) (u8s_len256 him) rfl ?_)
    rw [secS_yes (by assumption), hen]
    exact ⟨rfl, H.base⟩

theorem snode_ok (n : Int) (w0 : World) (h1 : -9223372036854775808 ≤ n) (h2 : n ≤ 9223372036854775807) :
    Calls Try.prog 28 #[.int .i64 n] w0 fun e w => e = .returned (.bool (nodeP n)) ∧ Below w0.heap.size w0 w := by
  refine enter (args := [.int .i64 n]) Try.func28 rfl Try.ntmps28 rfl ?_
  have H := Sat.start w0
  refine cw_seq ?_
  -- region 0 store.go:65
  refine cw_region (clf [.U]) [0] rfl (by kernel_rfl) (by decide) ?_
  refine TF.u (v := (.bool _)) rfl rfl (pr_assign rfl) ?_
  refine TF.nil (nx_then ?_)
  refine cw_seq ?_
  -- region 1 store.go:65
  refine cw_region (clf [.U, .U, .U, .U, .U, .U, .U]) [0, 1, 2, 3, 4, 5, 6] rfl (by kernel_rfl) (by decide) ?_
  refine TF.u (v := (.int .i64 _)) rfl rfl (pr_move rfl) ?_
  refine TF.u (v := (.bool _)) rfl rfl (pr_geq rfl rfl) ?_
  refine TF.u (v := (.bool _)) rfl rfl (pr_move rfl) ?_
  refine TF.split (dj := 5) rfl (fun hq2 => ?_) (fun hq2 => ?_)
  ·
    have hp2 := dT hq2
    refine TF.ug (v := (.int .i64 _)) rfl rfl (wantF_yes rfl rfl rfl hq2) (pr_move rfl) ?_
    refine TF.ug (v := (.bool _)) rfl rfl (wantF_yes rfl rfl rfl hq2) (pr_lss rfl rfl) ?_
    refine TF.u (v := (.bool _)) rfl rfl (pr_pickT rfl hq2 rfl) ?_
    refine TF.u (v := (.bool _)) rfl rfl (pr_assign rfl) ?_
    refine TF.nil (nx_then ?_)
    refine cw_ret (fin1 (v := (.bool _)) Try.results28 rfl rfl ?_)
    exact ⟨congrArg _ (congrArg _ (Bool.eq_iff_iff.2 (by rw [nodeP_iff]; first | (simp_all; done) | (simp_all; omega)))), H.base⟩
  ·
    have hp2 := dF hq2
    refine TF.skip rfl (wantF_no rfl rfl rfl hq2) ?_
    refine TF.skip rfl (wantF_no rfl rfl rfl hq2) ?_
    refine TF.u (v := (.bool _)) rfl rfl (pr_pickF rfl hq2 rfl) ?_
    refine TF.u (v := (.bool _)) rfl rfl (pr_assign rfl) ?_
    refine TF.nil (nx_then ?_)
    refine cw_ret (fin1 (v := (.bool _)) Try.results28 rfl rfl ?_)
    exact ⟨congrArg _ (congrArg _ (Bool.eq_iff_iff.2 (by rw [nodeP_iff]; first | (simp_all; done) | (simp_all; omega)))), H.base⟩

theorem rnode_ok (n : Int) (w0 : World) (h1 : -9223372036854775808 ≤ n) (h2 : n ≤ 9223372036854775807) :
    Calls Try.prog 48 #[.int .i64 n] w0 fun e w => e = .returned (.bool (nodeP n)) ∧ Below w0.heap.size w0 w := by
  refine enter (args := [.int .i64 n]) Try.func48 rfl Try.ntmps48 rfl ?_
  have H := Sat.start w0
  refine cw_seq ?_
  -- region 0 ref.go:48
  refine cw_region (clf [.U]) [0] rfl (by kernel_rfl) (by decide) ?_
  refine TF.u (v := (.bool _)) rfl rfl (pr_assign rfl) ?_
  refine TF.nil (nx_then ?_)
  refine cw_seq ?_
  -- region 1 ref.go:48
  refine cw_region (clf [.U, .U, .U, .U, .U, .U, .U]) [0, 1, 2, 3, 4, 5, 6] rfl (by kernel_rfl) (by decide) ?_
  refine TF.u (v := (.int .i64 _)) rfl rfl (pr_move rfl) ?_
  refine TF.u (v := (.bool _)) rfl rfl (pr_geq rfl rfl) ?_
  refine TF.u (v := (.bool _)) rfl rfl (pr_move rfl) ?_
  refine TF.split (dj := 5) rfl (fun hq2 => ?_) (fun hq2 => ?_)
  ·
    have hp2 := dT hq2
    refine TF.ug (v := (.int .i64 _)) rfl rfl (wantF_yes rfl rfl rfl hq2) (pr_move rfl) ?_
    refine TF.ug (v := (.bool _)) rfl rfl (wantF_yes rfl rfl rfl hq2) (pr_lss rfl rfl) ?_
    refine TF.u (v := (.bool _)) rfl rfl (pr_pickT rfl hq2 rfl) ?_
    refine TF.u (v := (.bool _)) rfl rfl (pr_assign rfl) ?_
    refine TF.nil (nx_then ?_)
    refine cw_ret (fin1 (v := (.bool _)) Try.results48 rfl rfl ?_)
    exact ⟨congrArg _ (congrArg _ (Bool.eq_iff_iff.2 (by rw [nodeP_iff]; first | (simp_all; done) | (simp_all; omega)))), H.base⟩
  ·
    have hp2 := dF hq2
    refine TF.skip rfl (wantF_no rfl rfl rfl hq2) ?_
    refine TF.skip rfl (wantF_no rfl rfl rfl hq2) ?_
    refine TF.u (v := (.bool _)) rfl rfl (pr_pickF rfl hq2 rfl) ?_
    refine TF.u (v := (.bool _)) rfl rfl (pr_assign rfl) ?_
    refine TF.nil (nx_then ?_)
    refine cw_ret (fin1 (v := (.bool _)) Try.results48 rfl rfl ?_)
    exact ⟨congrArg _ (congrArg _ (Bool.eq_iff_iff.2 (by rw [nodeP_iff]; first | (simp_all; done) | (simp_all; omega)))), H.base⟩

theorem whole_ok (m : Int) (w0 : World) (h1 : -9223372036854775808 ≤ m) (h2 : m ≤ 9223372036854775807) :
    Calls Try.prog 30 #[.int .i64 m] w0 fun e w => e = .returned (.bool (wholeP m)) ∧ Below w0.heap.size w0 w := by
  refine enter (args := [.int .i64 m]) Try.func30 rfl Try.ntmps30 rfl ?_
  have H := Sat.start w0
  refine cw_seq ?_
  -- region 0 store.go:68
  refine cw_region (clf [.U]) [0] rfl (by kernel_rfl) (by decide) ?_
  refine TF.u (v := (.bool _)) rfl rfl (pr_assign rfl) ?_
  refine TF.nil (nx_then ?_)
  refine cw_seq ?_
  -- region 1 store.go:69
  refine cw_region (clf [.U, .U, .U, .U, .U, .U, .U, .U, .U, .U, .U, .U, .U, .U, .U, .U]) [0, 1, 2, 3, 4, 5, 6, 7, 8, 9, 10, 11, 12, 13, 14, 15] rfl (by kernel_rfl) (by decide) ?_
  refine TF.u (v := (.int .i64 _)) rfl rfl (pr_move rfl) ?_
  refine TF.u (v := (.bool _)) rfl rfl (pr_geq rfl rfl) ?_
  refine TF.u (v := (.bool _)) rfl rfl (pr_move rfl) ?_
  refine TF.split (dj := 5) rfl (fun hq2 => ?_) (fun hq2 => ?_)
  ·
    have hp2 := dT hq2
    refine TF.ug (v := (.int .i64 _)) rfl rfl (wantF_yes rfl rfl rfl hq2) (pr_move rfl) ?_
    refine TF.ug (v := (.bool _)) rfl rfl (wantF_yes rfl rfl rfl hq2) (pr_leq rfl rfl) ?_
    refine TF.u (v := (.bool _)) rfl rfl (pr_pickT rfl hq2 rfl) ?_
    refine TF.u (v := (.bool _)) rfl rfl (pr_move rfl) ?_
    refine TF.split (dj := 9) rfl (fun hq4 => ?_) (fun hq4 => ?_)
    ·
      have hp4 := dT hq4
      refine TF.ug (v := (.int .i64 _)) rfl rfl (wantF_yes rfl rfl rfl hq4) (pr_move rfl) ?_
      refine TF.ug (v := (.bool _)) rfl rfl (wantF_yes rfl rfl rfl hq4) (pr_lss rfl rfl) ?_
      refine TF.ug (v := (.bool _)) rfl rfl (wantF_yes rfl rfl rfl hq4) (pr_move rfl) ?_
      refine TF.split (dj := 12) rfl (fun hq6 => ?_) (fun hq6 => ?_)
      ·
        have hp6 := dT hq6
        refine TF.skip rfl (wantF_no rfl rfl rfl hq6) ?_
        refine TF.skip rfl (wantF_no rfl rfl rfl hq6) ?_
        refine TF.skip rfl (wantF_no rfl rfl rfl hq6) ?_
        refine TF.ug (v := (.bool _)) rfl rfl (wantF_yes rfl rfl rfl hq4) (pr_pickT rfl hq6 rfl) ?_
        refine TF.u (v := (.bool _)) rfl rfl (pr_pickT rfl hq4 rfl) ?_
        refine TF.u (v := (.bool _)) rfl rfl (pr_assign rfl) ?_
        refine TF.nil (nx_then ?_)
        refine cw_ret (fin1 (v := (.bool _)) Try.results30 rfl rfl ?_)
        exact ⟨congrArg _ (congrArg _ (Bool.eq_iff_iff.2 (by rw [wholeP_iff]; first | (simp_all; done) | (simp_all; omega)))), H.base⟩
      ·
        have hp6 := dF hq6
        refine TF.ug (v := (.int .i64 _)) rfl rfl (wantF_yes rfl rfl rfl hq6) (pr_move rfl) ?_
        refine TF.ug (v := (.int .i64 _)) rfl rfl (wantF_yes rfl rfl rfl hq6) (pr_and rfl rfl (and3m (by omega) (by omega))) ?_
        refine TF.ug (v := (.bool _)) rfl rfl (wantF_yes rfl rfl rfl hq6) (pr_eql rfl rfl) ?_
        refine TF.ug (v := (.bool _)) rfl rfl (wantF_yes rfl rfl rfl hq4) (pr_pickF rfl hq6 rfl) ?_
        refine TF.u (v := (.bool _)) rfl rfl (pr_pickT rfl hq4 rfl) ?_
        refine TF.u (v := (.bool _)) rfl rfl (pr_assign rfl) ?_
        refine TF.nil (nx_then ?_)
        refine cw_ret (fin1 (v := (.bool _)) Try.results30 rfl rfl ?_)
        exact ⟨congrArg _ (congrArg _ (Bool.eq_iff_iff.2 (by rw [wholeP_iff]; first | (simp_all; done) | (simp_all; omega)))), H.base⟩
    ·
      have hp4 := dF hq4
      refine TF.skip rfl (wantF_no rfl rfl rfl hq4) ?_
      refine TF.skip rfl (wantF_no rfl rfl rfl hq4) ?_
      refine TF.skip rfl (wantF_no rfl rfl rfl hq4) ?_
      refine TF.skip rfl (wantF_undef rfl rfl rfl) ?_
      refine TF.skip rfl (wantF_undef rfl rfl rfl) ?_
      refine TF.skip rfl (wantF_undef rfl rfl rfl) ?_
      refine TF.skip rfl (wantF_no rfl rfl rfl hq4) ?_
      refine TF.u (v := (.bool _)) rfl rfl (pr_pickF rfl hq4 rfl) ?_
      refine TF.u (v := (.bool _)) rfl rfl (pr_assign rfl) ?_
      refine TF.nil (nx_then ?_)
      refine cw_ret (fin1 (v := (.bool _)) Try.results30 rfl rfl ?_)
      exact ⟨congrArg _ (congrArg _ (Bool.eq_iff_iff.2 (by rw [wholeP_iff]; first | (simp_all; done) | (simp_all; omega)))), H.base⟩
  ·
    have hp2 := dF hq2
    refine TF.skip rfl (wantF_no rfl rfl rfl hq2) ?_
    refine TF.skip rfl (wantF_no rfl rfl rfl hq2) ?_
    refine TF.u (v := (.bool _)) rfl rfl (pr_pickF rfl hq2 rfl) ?_
    refine TF.u (v := (.bool _)) rfl rfl (pr_move rfl) ?_
    refine TF.skip rfl (wantF_no rfl rfl rfl rfl) ?_
    refine TF.skip rfl (wantF_no rfl rfl rfl rfl) ?_
    refine TF.skip rfl (wantF_no rfl rfl rfl rfl) ?_
    refine TF.skip rfl (wantF_undef rfl rfl rfl) ?_
    refine TF.skip rfl (wantF_undef rfl rfl rfl) ?_
    refine TF.skip rfl (wantF_undef rfl rfl rfl) ?_
    refine TF.skip rfl (wantF_no rfl rfl rfl rfl) ?_
    refine TF.u (v := (.bool _)) rfl rfl (pr_pickF rfl rfl rfl) ?_
    refine TF.u (v := (.bool _)) rfl rfl (pr_assign rfl) ?_
    refine TF.nil (nx_then ?_)
    refine cw_ret (fin1 (v := (.bool _)) Try.results30 rfl rfl ?_)
    exact ⟨congrArg _ (congrArg _ (Bool.eq_iff_iff.2 (by rw [wholeP_iff]; first | (simp_all; done) | (simp_all; omega)))), H.base⟩

theorem rmask_ok (m : Int) (w0 : World) (h1 : -9223372036854775808 ≤ m) (h2 : m ≤ 9223372036854775807) :
    Calls Try.prog 19 #[.int .i64 m] w0 fun e w => e = .returned (.bool (wholeP m)) ∧ Below w0.heap.size w0 w := by
  refine enter (args := [.int .i64 m]) Try.func19 rfl Try.ntmps19 rfl ?_
  have H := Sat.start w0
  refine cw_seq ?_
  -- region 0 ref.go:44
  refine cw_region (clf [.U]) [0] rfl (by kernel_rfl) (by decide) ?_
  refine TF.u (v := (.bool _)) rfl rfl (pr_assign rfl) ?_
  refine TF.nil (nx_then ?_)
  refine cw_seq ?_
  -- region 1 ref.go:44
  refine cw_region (clf [.U, .U, .U, .U, .U, .U, .U, .U, .U, .U, .U, .U, .U, .U, .U, .U, .U, .U, .U]) [0, 1, 2, 3, 4, 5, 6, 7, 8, 9, 10, 11, 12, 13, 14, 15, 16, 17, 18] rfl (by kernel_rfl) (by decide) ?_
  refine TF.u (v := (.int .i64 _)) rfl rfl (pr_move rfl) ?_
  refine TF.u (v := (.bool _)) rfl rfl (pr_geq rfl rfl) ?_
  refine TF.u (v := (.bool _)) rfl rfl (pr_move rfl) ?_
  refine TF.split (dj := 5) rfl (fun hq2 => ?_) (fun hq2 => ?_)
  ·
    have hp2 := dT hq2
    refine TF.ug (v := (.int .i64 _)) rfl rfl (wantF_yes rfl rfl rfl hq2) (pr_move rfl) ?_
    refine TF.ug (v := (.bool _)) rfl rfl (wantF_yes rfl rfl rfl hq2) (pr_leq rfl rfl) ?_
    refine TF.u (v := (.bool _)) rfl rfl (pr_pickT rfl hq2 rfl) ?_
    refine TF.u (v := (.bool _)) rfl rfl (pr_move rfl) ?_
    refine TF.split (dj := 9) rfl (fun hq4 => ?_) (fun hq4 => ?_)
    ·
      have hp4 := dT hq4
      refine TF.skip rfl (wantF_no rfl rfl rfl hq4) ?_
      refine TF.skip rfl (wantF_no rfl rfl rfl hq4) ?_
      refine TF.u (v := (.bool _)) rfl rfl (pr_pickT rfl hq4 rfl) ?_
      refine TF.u (v := (.bool _)) rfl rfl (pr_move rfl) ?_
      refine TF.skip rfl (wantF_no rfl rfl rfl rfl) ?_
      refine TF.skip rfl (wantF_no rfl rfl rfl rfl) ?_
      refine TF.u (v := (.bool _)) rfl rfl (pr_pickT rfl rfl rfl) ?_
      refine TF.u (v := (.bool _)) rfl rfl (pr_move rfl) ?_
      refine TF.skip rfl (wantF_no rfl rfl rfl rfl) ?_
      refine TF.skip rfl (wantF_no rfl rfl rfl rfl) ?_
      refine TF.u (v := (.bool _)) rfl rfl (pr_pickT rfl rfl rfl) ?_
      refine TF.u (v := (.bool _)) rfl rfl (pr_assign rfl) ?_
      refine TF.nil (nx_then ?_)
      refine cw_ret (fin1 (v := (.bool _)) Try.results19 rfl rfl ?_)
      exact ⟨congrArg _ (congrArg _ (Bool.eq_iff_iff.2 (by rw [wholeP_iff]; first | (simp_all; done) | (simp_all; omega)))), H.base⟩
    ·
      have hp4 := dF hq4
      refine TF.ug (v := (.int .i64 _)) rfl rfl (wantF_yes rfl rfl rfl hq4) (pr_move rfl) ?_
      refine TF.ug (v := (.bool _)) rfl rfl (wantF_yes rfl rfl rfl hq4) (pr_eql rfl rfl) ?_
      refine TF.u (v := (.bool _)) rfl rfl (pr_pickF rfl hq4 rfl) ?_
      refine TF.u (v := (.bool _)) rfl rfl (pr_move rfl) ?_
      refine TF.split (dj := 13) rfl (fun hq6 => ?_) (fun hq6 => ?_)
      ·
        have hp6 := dT hq6
        refine TF.skip rfl (wantF_no rfl rfl rfl hq6) ?_
        refine TF.skip rfl (wantF_no rfl rfl rfl hq6) ?_
        refine TF.u (v := (.bool _)) rfl rfl (pr_pickT rfl hq6 rfl) ?_
        refine TF.u (v := (.bool _)) rfl rfl (pr_move rfl) ?_
        refine TF.skip rfl (wantF_no rfl rfl rfl rfl) ?_
        refine TF.skip rfl (wantF_no rfl rfl rfl rfl) ?_
        refine TF.u (v := (.bool _)) rfl rfl (pr_pickT rfl rfl rfl) ?_
        refine TF.u (v := (.bool _)) rfl rfl (pr_assign rfl) ?_
        refine TF.nil (nx_then ?_)
        refine cw_ret (fin1 (v := (.bool _)) Try.results19 rfl rfl ?_)
        exact ⟨congrArg _ (congrArg _ (Bool.eq_iff_iff.2 (by rw [wholeP_iff]; first | (simp_all; done) | (simp_all; omega)))), H.base⟩
      ·
        have hp6 := dF hq6
        refine TF.ug (v := (.int .i64 _)) rfl rfl (wantF_yes rfl rfl rfl hq6) (pr_move rfl) ?_
        refine TF.ug (v := (.bool _)) rfl rfl (wantF_yes rfl rfl rfl hq6) (pr_eql rfl rfl) ?_
        refine TF.u (v := (.bool _)) rfl rfl (pr_pickF rfl hq6 rfl) ?_
        refine TF.u (v := (.bool _)) rfl rfl (pr_move rfl) ?_
        refine TF.split (dj := 17) rfl (fun hq8 => ?_) (fun hq8 => ?_)
        ·
          have hp8 := dT hq8
          refine TF.skip rfl (wantF_no rfl rfl rfl hq8) ?_
          refine TF.skip rfl (wantF_no rfl rfl rfl hq8) ?_
          refine TF.u (v := (.bool _)) rfl rfl (pr_pickT rfl hq8 rfl) ?_
          refine TF.u (v := (.bool _)) rfl rfl (pr_assign rfl) ?_
          refine TF.nil (nx_then ?_)
          refine cw_ret (fin1 (v := (.bool _)) Try.results19 rfl rfl ?_)
          exact ⟨congrArg _ (congrArg _ (Bool.eq_iff_iff.2 (by rw [wholeP_iff]; first | (simp_all; done) | (simp_all; omega)))), H.base⟩
        ·
          have hp8 := dF hq8
          refine TF.ug (v := (.int .i64 _)) rfl rfl (wantF_yes rfl rfl rfl hq8) (pr_move rfl) ?_
          refine TF.ug (v := (.bool _)) rfl rfl (wantF_yes rfl rfl rfl hq8) (pr_eql rfl rfl) ?_
          refine TF.u (v := (.bool _)) rfl rfl (pr_pickF rfl hq8 rfl) ?_
          refine TF.u (v := (.bool _)) rfl rfl (pr_assign rfl) ?_
          refine TF.nil (nx_then ?_)
          refine cw_ret (fin1 (v := (.bool _)) Try.results19 rfl rfl ?_)
          exact ⟨congrArg _ (congrArg _ (Bool.eq_iff_iff.2 (by rw [wholeP_iff]; first | (simp_all; done) | (simp_all; omega)))), H.base⟩
  ·
    have hp2 := dF hq2
    refine TF.skip rfl (wantF_no rfl rfl rfl hq2) ?_
    refine TF.skip rfl (wantF_no rfl rfl rfl hq2) ?_
    refine TF.u (v := (.bool _)) rfl rfl (pr_pickF rfl hq2 rfl) ?_
    refine TF.u (v := (.bool _)) rfl rfl (pr_move rfl) ?_
    refine TF.ug (v := (.int .i64 _)) rfl rfl (wantF_yes rfl rfl rfl rfl) (pr_move rfl) ?_
    refine TF.ug (v := (.bool _)) rfl rfl (wantF_yes rfl rfl rfl rfl) (pr_eql rfl rfl) ?_
    refine TF.u (v := (.bool _)) rfl rfl (pr_pickF rfl rfl rfl) ?_
    refine TF.u (v := (.bool _)) rfl rfl (pr_move rfl) ?_
    refine TF.split (dj := 13) rfl (fun hq11 => ?_) (fun hq11 => ?_)
    ·
      have hp11 := dT hq11
      refine TF.skip rfl (wantF_no rfl rfl rfl hq11) ?_
      refine TF.skip rfl (wantF_no rfl rfl rfl hq11) ?_
      refine TF.u (v := (.bool _)) rfl rfl (pr_pickT rfl hq11 rfl) ?_
      refine TF.u (v := (.bool _)) rfl rfl (pr_move rfl) ?_
      refine TF.skip rfl (wantF_no rfl rfl rfl rfl) ?_
      refine TF.skip rfl (wantF_no rfl rfl rfl rfl) ?_
      refine TF.u (v := (.bool _)) rfl rfl (pr_pickT rfl rfl rfl) ?_
      refine TF.u (v := (.bool _)) rfl rfl (pr_assign rfl) ?_
      refine TF.nil (nx_then ?_)
      refine cw_ret (fin1 (v := (.bool _)) Try.results19 rfl rfl ?_)
      exact ⟨congrArg _ (congrArg _ (Bool.eq_iff_iff.2 (by rw [wholeP_iff]; first | (simp_all; done) | (simp_all; omega)))), H.base⟩
    ·
      have hp11 := dF hq11
      refine TF.ug (v := (.int .i64 _)) rfl rfl (wantF_yes rfl rfl rfl hq11) (pr_move rfl) ?_
      refine TF.ug (v := (.bool _)) rfl rfl (wantF_yes rfl rfl rfl hq11) (pr_eql rfl rfl) ?_
      refine TF.u (v := (.bool _)) rfl rfl (pr_pickF rfl hq11 rfl) ?_
      refine TF.u (v := (.bool _)) rfl rfl (pr_move rfl) ?_
      refine TF.split (dj := 17) rfl (fun hq13 => ?_) (fun hq13 => ?_)
      ·
        have hp13 := dT hq13
        refine TF.skip rfl (wantF_no rfl rfl rfl hq13) ?_
        refine TF.skip rfl (wantF_no rfl rfl rfl hq13) ?_
        refine TF.u (v := (.bool _)) rfl rfl (pr_pickT rfl hq13 rfl) ?_
        refine TF.u (v := (.bool _)) rfl rfl (pr_assign rfl) ?_
        refine TF.nil (nx_then ?_)
        refine cw_ret (fin1 (v := (.bool _)) Try.results19 rfl rfl ?_)
        exact ⟨congrArg _ (congrArg _ (Bool.eq_iff_iff.2 (by rw [wholeP_iff]; first | (simp_all; done) | (simp_all; omega)))), H.base⟩
      ·
        have hp13 := dF hq13
        refine TF.ug (v := (.int .i64 _)) rfl rfl (wantF_yes rfl rfl rfl hq13) (pr_move rfl) ?_
        refine TF.ug (v := (.bool _)) rfl rfl (wantF_yes rfl rfl rfl hq13) (pr_eql rfl rfl) ?_
        refine TF.u (v := (.bool _)) rfl rfl (pr_pickF rfl hq13 rfl) ?_
        refine TF.u (v := (.bool _)) rfl rfl (pr_assign rfl) ?_
        refine TF.nil (nx_then ?_)
        refine cw_ret (fin1 (v := (.bool _)) Try.results19 rfl rfl ?_)
        exact ⟨congrArg _ (congrArg _ (Bool.eq_iff_iff.2 (by rw [wholeP_iff]; first | (simp_all; done) | (simp_all; omega)))), H.base⟩

theorem lay_ok (b o e : Nat) (fz : Nat × Nat) (cs : List Value) (x img : List UInt8) (bits : Nat) (w0 : World) (hb : w0.heap[b]? = some (.cells ⟨cs⟩ e fz)) (hfz : cs.length ≤ fz.1 ∨ fz = (0, 0)) (ho : o + 256 ≤ cs.length) (hcx : (cs.drop o).take 256 = u8s x) (hx : x.length = 256) (hi : img.length = 256) (hbits : bits ≤ 15) :
    Calls Try.prog 34 #[.pointer (some ⟨b, o, none⟩), .agg ⟨u8s img⟩, .int .i64 (bits : Int)] w0 fun e' w => e' = .returned (.tuple #[]) ∧ Only [b] w0 w ∧ w.heap[b]? = some (.cells ⟨cs.take o ++ u8s (layB x img bits) ++ cs.drop (o + 256)⟩ e fz) := by
  refine enter (args := [.pointer (some ⟨b, o, none⟩), .agg ⟨u8s img⟩, .int .i64 (bits : Int)]) Try.func34 rfl Try.ntmps34 rfl ?_
  have H0 : Sat [b] w0 w0 [cCells b e fz cs] := Sat.start1 ⟨hb, hfz, rfl⟩
  have hcs : cs.take o ++ u8s (layP x img bits 0) ++ cs.drop (o + 256) = cs := by rw [layP_0, ← hcx, ← List.drop_drop, List.append_assoc, List.take_append_drop, List.take_append_drop]
  have H : Sat [b] w0 w0 [cCells b e fz (cs.take o ++ u8s (layP x img bits 0) ++ cs.drop (o + 256))] := by rw [hcs]; exact H0
  clear H0
  refine cw_seq ?_
  -- region 0 store.go:73
  refine cw_region (clf [.X]) [0] rfl (by kernel_rfl) (by decide) ?_
  refine TF.box (v := (.agg ⟨u8s img⟩)) H rfl (Cx.xx rfl) (wantF_none rfl) rfl rfl ?_
  clear H
  intro bk1 w hltbk1 hb2 H
  refine TF.nil (nx_then ?_)
  refine cw_seq ?_
  -- region 1 store.go:74
  refine cw_region (clf [.U]) [0] rfl (by kernel_rfl) (by decide) ?_
  refine TF.u (v := (.int .i64 _)) rfl rfl (pr_move rfl) ?_
  refine TF.nil (nx_then ?_)
  refine cw_block ?_
  refine cw_loop (fun m_q f_q w => ∃ (g_ : Nat → Value) (i : Nat), m_q = 2 - i ∧ f_q = (upd (upd (upd (upd g_ 0 (.pointer (some ⟨b, o, none⟩))) 2 (.int .i64 (bits : Int))) 4 (.pointer (some ⟨bk1, 0, none⟩))) 7 (.int .i64 (i : Int))) ∧ Sat [b] w0 w [cBlk bk1 60 (u8s img), cCells b e fz (cs.take o ++ u8s (layP x img bits i) ++ cs.drop (o + 256))] ∧ (i ≤ 2)) (2 - 0) ?_ ?_
  ·
    exact ⟨_, 0, rfl, (cutS (cutS (cutS (cutS rfl rfl) rfl) rfl) rfl), H, Nat.zero_le _⟩
  ·
    clear H
    rintro m_ f_ w ⟨g_, i, rfl, rfl, H, hi2⟩
    refine cw_seq ?_
    -- region 2 store.go:74
    refine cw_region (clf [.U]) [0] rfl (by kernel_rfl) (by decide) ?_
    refine TF.u (v := (.bool _)) rfl rfl (pr_lss rfl rfl) ?_
    refine TF.nil (nx_then ?_)
    refine cw_seq ?_
    refine cw_cond _ rfl rfl (fun hq4 => ?_) (fun hq4 => ?_)
    ·
      have hp4 := dT hq4
      refine cw_skip (nx_then ?_)
      refine cw_seq ?_
      refine cw_block ?_
      refine cw_seq ?_
      -- region 3 store.go:74
      refine cw_region (clf [.U, .U]) [0, 1] rfl (by kernel_rfl) (by decide) ?_
      refine TF.u (v := (.int .i64 _)) rfl rfl (pr_move rfl) ?_
      refine TF.u (v := (.int .i64 _)) rfl rfl (pr_assign rfl) ?_
      refine TF.nil (nx_then ?_)
      refine cw_seq ?_
      -- region 4 store.go:75
      refine cw_region (clf [.U, .U, .U, .U, .U]) [0, 1, 2, 3, 4] rfl (by kernel_rfl) (by decide) ?_
      refine TF.u (v := (.int .i64 _)) rfl rfl (pr_move rfl) ?_
      refine TF.u (v := (.int .i64 _)) rfl rfl (pr_move rfl) ?_
      refine TF.u (v := (.int .i64 _)) rfl rfl (pr_shr rfl rfl (by omega) (shri bits i (by omega))) ?_
      refine TF.u (v := (.int .i64 _)) rfl rfl (pr_and rfl rfl (and1i _ (by have := Nat.div_le_self bits (2 ^ i); omega))) ?_
      refine TF.u (v := (.bool _)) rfl rfl (pr_eql rfl rfl) ?_
      refine TF.nil (nx_then ?_)
      refine cw_cond _ rfl rfl (fun hq6 => ?_) (fun hq6 => ?_)
      ·
        have hp6 := dT hq6
        -- region 5 store.go:76
        refine cw_drawS H Try.wide_ (clf [.U, .U, .U, .U, .R, .U, .U, .X]) [0, 1, 2, 3, 4, 5, 6, 7] (by kernel_rfl) (by kernel_rfl) ?_
        clear H
        intro w hbr H hB
        refine TF.u (v := (.pointer (some ⟨_, _, none⟩))) rfl rfl (pr_move rfl) ?_
        refine TF.u (v := (.int .i64 _)) rfl rfl (pr_move rfl) ?_
        refine TF.u (v := (.int .i64 _)) rfl rfl (pr_move rfl) ?_
        refine TF.u (v := (.pointer (some ⟨_, _, none⟩))) rfl rfl (pr_idxA Try.underlying60 (Try.sz58) rfl rfl (by omega) (by omega)) ?_
        skip
        refine TF.loadEr (cs' := u8s ((img.drop (i * 128)).take 128)) rfl rfl (wantF_none rfl) (Try.sz58) rfl rfl (H.blk (k := 0) rfl) (u8s_len128 (sec_len hi (by omega))) (by rw [Nat.zero_add]; exact u8s_sec _ _ _) (fun _ h => h) ?_
        refine TF.u (v := (.pointer (some _))) rfl rfl (pr_nil rfl) ?_
        refine TF.u (v := (.pointer (some ⟨_, _, none⟩))) rfl rfl (pr_idxA Try.underlying60 (Try.sz58) rfl rfl (by omega) (by omega)) ?_
        skip
        refine TF.storeC (q := 1) (cs' := cs.take o ++ u8s (layP x img bits (i + 1)) ++ cs.drop (o + 256)) H rfl rfl rfl (wantF_none rfl) (Try.sz58) rfl rfl (u8s_len128 (sec_len hi (by omega))) (u8s_one' _) (cells_fit ho (layP_len hx hi) (by omega)) (cells_sec ho (layP_len hx hi) (sec_len hi (by omega)) (by omega) (layP_yes hx hi (by omega) (bit_yes (by assumption)))) ?_
        clear H
        intro w ho_ H
        replace H : Sat _ _ _ [_, _] := H
        clear hB
        refine TF.nil (nx_block (nx_then ?_))
        -- region 6 store.go:74
        refine cw_region (clf [.U, .U]) [0, 1] rfl (by kernel_rfl) (by decide) ?_
        refine TF.u (v := (.int .i64 _)) rfl rfl (pr_add rfl rfl (IntWalk.i64_in _ (by omega))) ?_
        refine TF.u (v := (.int .i64 _)) rfl rfl (pr_move rfl) ?_
        refine TF.nil (nx_loop (m' := 2 - (i + 1)) (by omega) ?_)
        exact ⟨_, i + 1, rfl, (cutS (cutS (cutS (cutS rfl rfl) rfl) rfl) rfl), H, by omega⟩
      ·
        have hp6 := dF hq6
        refine cw_skip (nx_block (nx_then ?_))
        -- region 6 store.go:74
        refine cw_region (clf [.U, .U]) [0, 1] rfl (by kernel_rfl) (by decide) ?_
        refine TF.u (v := (.int .i64 _)) rfl rfl (pr_add rfl rfl (IntWalk.i64_in _ (by omega))) ?_
        refine TF.u (v := (.int .i64 _)) rfl rfl (pr_move rfl) ?_
        refine TF.nil (nx_loop (m' := 2 - (i + 1)) (by omega) ?_)
        exact ⟨_, i + 1, rfl, (cutS (cutS (cutS (cutS rfl rfl) rfl) rfl) rfl), (by rw [layP_no (by omega) (bit_no (by assumption))]; exact H), by omega⟩
    ·
      have hp4 := dF hq4
      refine cw_exit (ex_then (ex_then (ex_here (fin0n Try.results34 ?_))))
      obtain rfl : i = 2 := by omega
      rw [layP_2] at H
      obtain ⟨hb1, _⟩ := H.cells (k := 1) rfl
      exact ⟨rfl, H.only, hb1⟩

theorem spages_ok (sb : Nat) (s : SS) (F : List Nat)  (w0 : World) (hF : (cStore 60 65 sb (s)).p w0 F) (ok : SOk s)  :
    Calls Try.prog 17 #[.pointer (some ⟨sb, 0, none⟩)] w0 fun e w => e = .returned (.int .i64 (s.pl.length : Int)) ∧ Below w0.heap.size w0 w := by
  refine enter (args := [.pointer (some ⟨sb, 0, none⟩)]) Try.func17 rfl Try.ntmps17 rfl ?_
  have H := Sat.start w0
  obtain ⟨A, n_, c, hblk, hrow⟩ := cStore_rd hF
  have hn_ : s.pl.length = n_ := row_len ok hrow
  obtain ⟨hk1, hk2, hk3, hk4, hk5⟩ := (show SOk s from ok)
  refine cw_seq ?_
  -- region 0 store.go:56
  refine cw_region (clf [.U]) [0] rfl (by kernel_rfl) (by decide) ?_
  refine TF.u (v := (.int .i64 _)) rfl rfl (pr_assign rfl) ?_
  refine TF.nil (nx_then ?_)
  refine cw_seq ?_
  refine cw_seq ?_
  -- region 1 store.go:57
  refine cw_region (clf [.U, .U]) [0, 1] rfl (by kernel_rfl) (by decide) ?_
  refine TF.u (v := (.pointer (some ⟨_, 0, none⟩))) rfl rfl (pr_move rfl) ?_
  refine TF.u (v := (.bool _)) rfl rfl (pr_peql Try.underlying30 rfl rfl) ?_
  refine TF.nil (nx_then ?_)
  refine cw_condF (t := _) rfl rfl rfl ?_
  refine cw_skip (nx_then ?_)
  refine cw_seq ?_
  -- region 3 store.go:60
  refine cw_region (clf [.U, .U, .U, .X, .U, .U]) [0, 1, 2, 3, 4, 5] rfl (by kernel_rfl) (by decide) ?_
  refine TF.u (v := (.pointer (some ⟨_, 0, none⟩))) rfl rfl (pr_move rfl) ?_
  refine TF.u (v := (.pointer (some _))) rfl rfl (pr_nil rfl) ?_
  refine TF.u (v := (.pointer (some ⟨_, 0, none⟩))) rfl rfl (pr_field (o' := 0) Try.underlying65 rfl (Try.ty57.s) (by decide) rfl rfl) ?_
  refine TF.load (v := (.slice A n_ c)) rfl rfl (wantF_none rfl) Try.underlying57 rfl rfl ((hblk.below H.base).at_ rfl) ?_
  refine TF.u (v := (.int .i64 _)) rfl rfl (pr_len rfl Try.underlying57 rfl) ?_
  refine TF.u (v := (.int .i64 _)) rfl rfl (pr_assign rfl) ?_
  refine TF.nil (nx_then ?_)
  refine cw_ret (fin1 (v := (.int .i64 _)) Try.results17 rfl rfl ?_)
  rw [hn_]
  exact ⟨rfl, H.base⟩

theorem sthere_ok (sb : Nat) (s : SS) (F : List Nat) (id : Int) (w0 : World) (hF : (cStore 60 65 sb (s)).p w0 F) (ok : SOk s) (h1 : -9223372036854775808 ≤ id) (h2 : id ≤ 9223372036854775807) :
    Calls Try.prog 29 #[.pointer (some ⟨sb, 0, none⟩), .int .i64 id] w0 fun e w => e = .returned (.bool (thereP s id)) ∧ Below w0.heap.size w0 w := by
  refine enter (args := [.pointer (some ⟨sb, 0, none⟩), .int .i64 id]) Try.func29 rfl Try.ntmps29 rfl ?_
  have H := Sat.start w0
  obtain ⟨A, n_, c, hblk, hrow⟩ := cStore_rd hF
  have hn_ : s.pl.length = n_ := row_len ok hrow
  obtain ⟨hk1, hk2, hk3, hk4, hk5⟩ := (show SOk s from ok)
  refine cw_seq ?_
  -- region 0 store.go:63
  refine cw_region (clf [.U]) [0] rfl (by kernel_rfl) (by decide) ?_
  refine TF.u (v := (.bool _)) rfl rfl (pr_assign rfl) ?_
  refine TF.nil (nx_then ?_)
  refine cw_seq ?_
  -- region 1 store.go:63
  refine cw_region (clf [.U, .U, .U, .U, .U, .X, .U, .U, .U]) [0, 1, 2, 3, 4, 5, 6, 7, 8] rfl (by kernel_rfl) (by decide) ?_
  refine TF.u (v := (.int .i64 _)) rfl rfl (pr_move rfl) ?_
  refine TF.u (v := (.bool _)) rfl rfl (pr_geq rfl rfl) ?_
  refine TF.u (v := (.bool _)) rfl rfl (pr_move rfl) ?_
  refine TF.split (dj := 7) rfl (fun hq2 => ?_) (fun hq2 => ?_)
  ·
    have hp2 := dT hq2
    refine TF.ug (v := (.int .i64 _)) rfl rfl (wantF_yes rfl rfl rfl hq2) (pr_move rfl) ?_
    refine TF.ug (v := (.pointer (some ⟨_, 0, none⟩))) rfl rfl (wantF_yes rfl rfl rfl hq2) (pr_move rfl) ?_
    refine TF.call (args := [(.pointer (some ⟨_, 0, none⟩))]) Try.fn17 rfl rfl (wantF_yes rfl rfl rfl hq2) rfl (spages_ok _ _ _  _ (Chk.belowS _ hF H.base) ok ) ?_
    rintro e_ w ⟨rfl, hb3⟩
    refine ⟨_, rfl, ?_⟩
    replace H := H.below hb3
    refine TF.ug (v := (.bool _)) rfl rfl (wantF_yes rfl rfl rfl hq2) (pr_lss rfl rfl) ?_
    refine TF.u (v := (.bool _)) rfl rfl (pr_pickT rfl hq2 rfl) ?_
    refine TF.u (v := (.bool _)) rfl rfl (pr_assign rfl) ?_
    refine TF.nil (nx_then ?_)
    refine cw_ret (fin1 (v := (.bool _)) Try.results29 rfl rfl ?_)
    exact ⟨congrArg _ (congrArg _ (Bool.eq_iff_iff.2 (by rw [thereP_iff]; first | (simp_all; done) | (simp_all; omega)))), H.base⟩
  ·
    have hp2 := dF hq2
    refine TF.skip rfl (wantF_no rfl rfl rfl hq2) ?_
    refine TF.skip rfl (wantF_no rfl rfl rfl hq2) ?_
    refine TF.skip rfl (wantF_no rfl rfl rfl hq2) ?_
    refine TF.skip rfl (wantF_no rfl rfl rfl hq2) ?_
    refine TF.u (v := (.bool _)) rfl rfl (pr_pickF rfl hq2 rfl) ?_
    refine TF.u (v := (.bool _)) rfl rfl (pr_assign rfl) ?_
    refine TF.nil (nx_then ?_)
    refine cw_ret (fin1 (v := (.bool _)) Try.results29 rfl rfl ?_)
    exact ⟨congrArg _ (congrArg _ (Bool.eq_iff_iff.2 (by rw [thereP_iff]; first | (simp_all; done) | (simp_all; omega)))), H.base⟩

theorem sbusy_ok (sb : Nat) (s : SS) (F : List Nat) (n id : Int) (w0 : World) (hF : (cStore 60 65 sb (s)).p w0 F) (ok : SOk s)  :
    Calls Try.prog 31 #[.pointer (some ⟨sb, 0, none⟩), .int .i64 n, .int .i64 id] w0 fun e w => e = .returned (.bool (busyS s n id)) ∧ Below w0.heap.size w0 w := by
  refine enter (args := [.pointer (some ⟨sb, 0, none⟩), .int .i64 n, .int .i64 id]) Try.func31 rfl Try.ntmps31 rfl ?_
  have H := Sat.start w0
  obtain ⟨A, n_, c, hblk, hrow⟩ := cStore_rd hF
  have hn_ : s.pl.length = n_ := row_len ok hrow
  obtain ⟨hk1, hk2, hk3, hk4, hk5⟩ := (show SOk s from ok)
  refine cw_seq ?_
  -- region 0 store.go:82
  refine cw_region (clf [.U]) [0] rfl (by kernel_rfl) (by decide) ?_
  refine TF.u (v := (.bool _)) rfl rfl (pr_assign rfl) ?_
  refine TF.nil (nx_then ?_)
  refine cw_seq ?_
  refine cw_seq ?_
  -- region 1 store.go:83
  refine cw_region (clf [.U, .U, .U, .X, .U]) [0, 1, 2, 3, 4] rfl (by kernel_rfl) (by decide) ?_
  refine TF.u (v := (.pointer (some ⟨_, 0, none⟩))) rfl rfl (pr_move rfl) ?_
  refine TF.u (v := (.pointer (some _))) rfl rfl (pr_nil rfl) ?_
  refine TF.u (v := (.pointer (some ⟨_, 1, none⟩))) rfl rfl (pr_field (o' := 1) Try.underlying65 rfl (Try.sz63) (by decide) rfl rfl) ?_
  refine TF.loadE (cs' := areasV ((SB.mk A n_ c s.ar).ar)) rfl rfl (wantF_none rfl) (Try.sz63) rfl rfl (hblk.below H.base) (areasV_len ok.arOk) (sb_areas ok.arOk) ?_
  refine TF.u (v := (.int .i64 _)) rfl rfl (pr_move rfl) ?_
  refine TF.nil (nx_then ?_)
  refine cw_block ?_
  refine cw_loop (fun m_q f_q w => ∃ (g_ : Nat → Value) (i : Nat), m_q = 8 - i ∧ f_q = (upd (upd (upd (upd g_ 1 (.int .i64 n)) 2 (.int .i64 id)) 12 (.agg ⟨areasV s.ar⟩)) 13 (.int .i64 (i : Int))) ∧ Sat [] w0 w [] ∧ (i ≤ 8) ∧ (busyS s n id = busyA n id i (s.ar.drop i))) (8 - 0) ?_ ?_
  ·
    exact ⟨_, 0, rfl, (cutS (cutS (cutS (cutS rfl rfl) rfl) rfl) rfl), H, Nat.zero_le _, rfl⟩
  ·
    clear H
    rintro m_ f_ w ⟨g_, i, rfl, rfl, H, hi, hB_⟩
    refine cw_seq ?_
    -- region 2 store.go:83
    refine cw_region (clf [.U]) [0] rfl (by kernel_rfl) (by decide) ?_
    refine TF.u (v := (.bool _)) rfl rfl (pr_lss rfl rfl) ?_
    refine TF.nil (nx_then ?_)
    refine cw_seq ?_
    refine cw_cond _ rfl rfl (fun hq2 => ?_) (fun hq2 => ?_)
    ·
      have hp2 := dT hq2
      refine cw_skip (nx_then ?_)
      refine cw_seq ?_
      refine cw_block ?_
      refine cw_seq ?_
      -- region 3 store.go:83
      refine cw_region (clf [.U, .U, .X, .U, .X]) [0, 1, 2, 3, 4] rfl (by kernel_rfl) (by decide) ?_
      refine TF.u (v := (.int .i64 _)) rfl rfl (pr_move rfl) ?_
      obtain ⟨o3, ho3⟩ : ∃ o, s.ar[i]? = some o := ⟨_, List.getElem?_eq_getElem (by rw [(ok.arOk).1]; omega)⟩
      refine TF.u (v := (.agg ⟨areaV o3⟩)) rfl rfl (pr_idxVE (cs' := areaV o3) Try.underlying63 (Try.sz62) rfl rfl rfl (by omega) (by omega) (areas_get ok.arOk ho3)) ?_
      refine TF.alloc H rfl (Cx.xx rfl) (wantF_none rfl) (Try.ty62) rfl ?_
      clear H
      intro bk4 w hltbk4 hb5 H
      replace H : Sat _ _ _ (cBlk _ _ (areaV noAr) :: _) := H
      replace H : Sat _ _ _ [_] := H
      refine TF.u (v := (.int .i64 _)) rfl rfl (pr_assign rfl) ?_
      refine TF.storeN (q := 0) (cs' := areaV o3) H rfl rfl rfl (wantF_none rfl) (Try.sz62) rfl rfl (areaV_len (ok.arOk.at_ ho3)) (areaV_one _) (by have h_ : (areaV noAr).length = 258 := (areaV_len rfl); omega) (store_all (areaV_len rfl)) ?_
      clear H
      intro w ho6 H
      replace H : Sat _ _ _ [_] := H
      refine TF.nil (nx_then ?_)
      refine cw_seq ?_
      -- region 4 store.go:84
      refine cw_region (clf [.U, .X, .U, .U, .U, .U, .U, .U, .X, .U, .U, .U, .U]) [0, 1, 2, 3, 4, 5, 6, 7, 8, 9, 10, 11, 12] rfl (by kernel_rfl) (by decide) ?_
      refine TF.u (v := (.pointer (some ⟨_, 256, none⟩))) rfl rfl (pr_field (o' := 256) Try.underlying62 rfl (Try.ty4.s) (by decide) rfl rfl) ?_
      refine TF.load (v := (.bool o3.out)) rfl rfl (wantF_none rfl) Try.underlying4 rfl rfl ((H.blk (k := 0) rfl).at_ (area_out (ok.arOk.at_ ho3))) ?_
      refine TF.u (v := (.bool o3.out)) rfl rfl (pr_move rfl) ?_
      refine TF.split (dj := 19) rfl (fun hq9 => ?_) (fun hq9 => ?_)
      ·
        have hp9 := hq9
        refine TF.ug (v := (.int .i64 _)) rfl rfl (wantF_yes rfl rfl rfl hq9) (pr_move rfl) ?_
        refine TF.ug (v := (.int .i64 _)) rfl rfl (wantF_yes rfl rfl rfl hq9) (pr_move rfl) ?_
        refine TF.ug (v := (.bool _)) rfl rfl (wantF_yes rfl rfl rfl hq9) (pr_eql rfl rfl) ?_
        refine TF.ug (v := (.bool _)) rfl rfl (wantF_yes rfl rfl rfl hq9) (pr_move rfl) ?_
        refine TF.split (dj := 23) rfl (fun hq11 => ?_) (fun hq11 => ?_)
        ·
          have hp11 := dT hq11
          refine TF.skip rfl (wantF_no rfl rfl rfl hq11) ?_
          refine TF.skip rfl (wantF_no rfl rfl rfl hq11) ?_
          refine TF.skip rfl (wantF_no rfl rfl rfl hq11) ?_
          refine TF.skip rfl (wantF_no rfl rfl rfl hq11) ?_
          refine TF.ug (v := (.bool _)) rfl rfl (wantF_yes rfl rfl rfl hq9) (pr_pickT rfl hq11 rfl) ?_
          refine TF.u (v := (.bool _)) rfl rfl (pr_pickT rfl hq9 rfl) ?_
          refine TF.nil (nx_then ?_)
          refine cw_condT (t := _) rfl rfl rfl ?_
          refine cw_seq ?_
          -- region 5 store.go:85
          refine cw_region (clf [.U]) [0] rfl (by kernel_rfl) (by decide) ?_
          refine TF.u (v := (.bool _)) rfl rfl (pr_assign rfl) ?_
          refine TF.nil (nx_then ?_)
          refine cw_ret (rt_block (rt_then (rt_then (rt_block (rt_then (fin1 (v := (.bool _)) Try.results31 rfl rfl ?_))))))
          rw [hB_, busyA_yes ho3 (by assumption) (by first | exact .inl (by assumption) | exact .inr (by assumption))]
          exact ⟨rfl, H.base⟩
        ·
          have hp11 := dF hq11
          refine TF.ug (v := (.pointer (some ⟨_, 257, none⟩))) rfl rfl (wantF_yes rfl rfl rfl hq11) (pr_field (o' := 257) Try.underlying62 rfl (Try.ty3.s) (by decide) rfl rfl) ?_
          refine TF.load (v := (.int .i64 o3.id)) rfl rfl (wantF_yes rfl rfl rfl hq11) Try.underlying3 rfl rfl ((H.blk (k := 0) rfl).at_ (area_id (ok.arOk.at_ ho3))) ?_
          refine TF.ug (v := (.int .i64 _)) rfl rfl (wantF_yes rfl rfl rfl hq11) (pr_move rfl) ?_
          refine TF.ug (v := (.bool _)) rfl rfl (wantF_yes rfl rfl rfl hq11) (pr_eql rfl rfl) ?_
          refine TF.ug (v := (.bool _)) rfl rfl (wantF_yes rfl rfl rfl hq9) (pr_pickF rfl hq11 rfl) ?_
          refine TF.u (v := (.bool _)) rfl rfl (pr_pickT rfl hq9 rfl) ?_
          refine TF.nil (nx_then ?_)
          refine cw_cond _ rfl rfl (fun hq13 => ?_) (fun hq13 => ?_)
          ·
            have hp13 := dT hq13
            refine cw_seq ?_
            -- region 5 store.go:85
            refine cw_region (clf [.U]) [0] rfl (by kernel_rfl) (by decide) ?_
            refine TF.u (v := (.bool _)) rfl rfl (pr_assign rfl) ?_
            refine TF.nil (nx_then ?_)
            refine cw_ret (rt_block (rt_then (rt_then (rt_block (rt_then (fin1 (v := (.bool _)) Try.results31 rfl rfl ?_))))))
            rw [hB_, busyA_yes ho3 (by assumption) (by first | exact .inl (by assumption) | exact .inr (by assumption))]
            exact ⟨rfl, H.base⟩
          ·
            have hp13 := dF hq13
            refine cw_skip (nx_block (nx_then ?_))
            -- region 6 store.go:83
            refine cw_region (clf [.U, .U]) [0, 1] rfl (by kernel_rfl) (by decide) ?_
            refine TF.u (v := (.int .i64 _)) rfl rfl (pr_add rfl rfl (IntWalk.i64_in _ (by omega))) ?_
            refine TF.u (v := (.int .i64 _)) rfl rfl (pr_move rfl) ?_
            refine TF.nil (nx_loop (m' := 8 - (i + 1)) (by omega) ?_)
            exact ⟨_, i + 1, rfl, (cutS (cutS (cutS (cutS rfl rfl) rfl) rfl) rfl), (H.del 0), by omega, hB_.trans (busyA_no ho3 (by first | exact .inl (by assumption) | exact .inr ⟨by assumption, by assumption⟩))⟩
      ·
        have hp9 := hq9
        refine TF.skip rfl (wantF_no rfl rfl rfl hq9) ?_
        refine TF.skip rfl (wantF_no rfl rfl rfl hq9) ?_
        refine TF.skip rfl (wantF_no rfl rfl rfl hq9) ?_
        refine TF.skip rfl (wantF_no rfl rfl rfl hq9) ?_
        refine TF.skip rfl (wantF_undef rfl rfl rfl) ?_
        refine TF.skip rfl (wantF_undef rfl rfl rfl) ?_
        refine TF.skip rfl (wantF_undef rfl rfl rfl) ?_
        refine TF.skip rfl (wantF_undef rfl rfl rfl) ?_
        refine TF.skip rfl (wantF_no rfl rfl rfl hq9) ?_
        refine TF.u (v := (.bool _)) rfl rfl (pr_pickF rfl hq9 rfl) ?_
        refine TF.nil (nx_then ?_)
        refine cw_condF (t := _) rfl rfl rfl ?_
        refine cw_skip (nx_block (nx_then ?_))
        -- region 6 store.go:83
        refine cw_region (clf [.U, .U]) [0, 1] rfl (by kernel_rfl) (by decide) ?_
        refine TF.u (v := (.int .i64 _)) rfl rfl (pr_add rfl rfl (IntWalk.i64_in _ (by omega))) ?_
        refine TF.u (v := (.int .i64 _)) rfl rfl (pr_move rfl) ?_
        refine TF.nil (nx_loop (m' := 8 - (i + 1)) (by omega) ?_)
        exact ⟨_, i + 1, rfl, (cutS (cutS (cutS (cutS rfl rfl) rfl) rfl) rfl), (H.del 0), by omega, hB_.trans (busyA_no ho3 (by first | exact .inl (by assumption) | exact .inr ⟨by assumption, by assumption⟩))⟩
    ·
      have hp2 := dF hq2
      refine cw_exit (ex_then (ex_then (ex_here (nx_then ?_))))
      refine cw_seq ?_
      -- region 7 store.go:88
      refine cw_region (clf [.U]) [0] rfl (by kernel_rfl) (by decide) ?_
      refine TF.u (v := (.bool _)) rfl rfl (pr_assign rfl) ?_
      refine TF.nil (nx_then ?_)
      refine cw_ret (fin1 (v := (.bool _)) Try.results31 rfl rfl ?_)
      rw [hB_, busyA_end (by rw [ok.ar]; omega)]
      exact ⟨rfl, H.base⟩

theorem sread_ok (sb : Nat) (s : SS) (F : List Nat) (id : Int) (w0 : World) (hF : (cStore 60 65 sb (s)).p w0 F) (ok : SOk s) (h1 : -9223372036854775808 ≤ id) (h2 : id ≤ 9223372036854775807) :
    Calls Try.prog 15 #[.pointer (some ⟨sb, 0, none⟩), .int .i64 id] w0 fun e w => e = .returned (.tuple #[.agg ⟨pgV (sRead s id).1⟩, .int .i64 (sRead s id).2]) ∧ Below w0.heap.size w0 w := by
  refine enter (args := [.pointer (some ⟨sb, 0, none⟩), .int .i64 id]) Try.func15 rfl Try.ntmps15 rfl ?_
  have H := Sat.start w0
  obtain ⟨A, n_, c, hblk, hrow⟩ := cStore_rd hF
  have hn_ : s.pl.length = n_ := row_len ok hrow
  obtain ⟨hk1, hk2, hk3, hk4, hk5⟩ := (show SOk s from ok)
  refine cw_seq ?_
  -- region 0 store.go:133
  refine cw_region (clf [.X, .U]) [0, 1] rfl (by kernel_rfl) (by decide) ?_
  refine TF.alloc H rfl (Cx.xx rfl) (wantF_none rfl) (Try.ty27) rfl ?_
  clear H
  intro bk1 w hltbk1 hb2 H
  replace H : Sat _ _ _ (cBlk _ _ (pgV noPg) :: _) := H
  replace H : Sat _ _ _ [_] := H
  refine TF.u (v := (.int .i64 _)) rfl rfl (pr_assign rfl) ?_
  refine TF.nil (nx_then ?_)
  refine cw_seq ?_
  refine cw_seq ?_
  -- region 1 store.go:134
  refine cw_region (clf [.U, .U, .X, .U]) [0, 1, 2, 3] rfl (by kernel_rfl) (by decide) ?_
  refine TF.u (v := (.pointer (some ⟨_, 0, none⟩))) rfl rfl (pr_move rfl) ?_
  refine TF.u (v := (.int .i64 _)) rfl rfl (pr_move rfl) ?_
  refine TF.call (args := [(.pointer (some ⟨_, 0, none⟩)), (.int .i64 _)]) Try.fn29 rfl rfl (wantF_none rfl) rfl (sthere_ok _ _ _ _ _ (Chk.belowS _ hF H.base) ok (by omega) (by omega)) ?_
  rintro e_ w ⟨rfl, hb3⟩
  refine ⟨_, rfl, ?_⟩
  replace H := H.below hb3
  refine TF.u (v := (.bool _)) rfl rfl (pr_not rfl) ?_
  refine TF.nil (nx_then ?_)
  refine cw_cond _ rfl rfl (fun hq5 => ?_) (fun hq5 => ?_)
  ·
    have hp5 := (nT hq5)
    refine cw_seq ?_
    -- region 2 store.go:135
    refine cw_region (clf [.U, .X, .U]) [0, 1, 2] rfl (by kernel_rfl) (by decide) ?_
    refine TF.u (v := (.agg ⟨pgV noPg⟩)) rfl rfl (pr_build (cs := pgV noPg) Try.bld27 rfl rfl) ?_
    refine TF.storeN (q := 0) (cs' := pgV noPg) H rfl rfl rfl (wantF_none rfl) (Try.ty27.s) rfl rfl (pgV_len noPg_ok.len) (pgV_one _) (by have h_ : (pgV noPg).length = 17 := (pgV_len noPg_ok.len); omega) (store_all (pgV_len noPg_ok.len)) ?_
    clear H
    intro w ho6 H
    replace H : Sat _ _ _ [_] := H
    refine TF.u (v := (.int .i64 _)) rfl rfl (pr_assign rfl) ?_
    refine TF.nil (nx_then ?_)
    refine cw_ret (rt_then (finC2 (v := (.int .i64 _)) (cs := pgV noPg) Try.results15 rfl rfl (Try.ty27.s) rfl rfl (H.blk (k := 0) rfl) (pgV_len noPg_ok.len) rfl ?_))
    rw [sRead, if_neg (by simp_all)]
    exact ⟨rfl, H.base⟩
  ·
    have hp5 := (nF hq5)
    refine cw_skip (nx_then ?_)
    refine cw_seq ?_
    -- region 3 store.go:137
    refine cw_region (clf [.U, .U, .U, .U, .X, .U, .U, .X, .X, .X, .U, .U, .X, .U]) [0, 1, 2, 3, 4, 5, 6, 7, 8, 9, 10, 11, 12, 13] rfl (by kernel_rfl) (by decide) ?_
    obtain ⟨k, x, rfl, hk, hx, hxl, hxe⟩ := ok.pl_at (by assumption)
    refine TF.u (v := (.int .i64 _)) rfl rfl (pr_move rfl) ?_
    refine TF.u (v := (.pointer (some ⟨_, 0, none⟩))) rfl rfl (pr_move rfl) ?_
    refine TF.u (v := (.pointer (some _))) rfl rfl (pr_nil rfl) ?_
    refine TF.u (v := (.pointer (some ⟨_, 0, none⟩))) rfl rfl (pr_field (o' := 0) Try.underlying65 rfl (Try.ty57.s) (by decide) rfl rfl) ?_
    refine TF.load (v := (.slice A n_ c)) rfl rfl (wantF_none rfl) Try.underlying57 rfl rfl ((hblk.below H.base).at_ rfl) ?_
    refine TF.u (v := (.int .i64 _)) rfl rfl (pr_move rfl) ?_
    refine TF.idx (hrow.below H.base) rfl rfl (wantF_none rfl) Try.underlying57 (Try.sz60) rfl rfl (by omega) (by omega) ?_
    intro p_ hc_
    replace hc_ : ∀ j u, (u8s x)[j]? = some u → _ := fun j u hu => hc_ j u (by have h_ := (List.getElem?_eq_some_iff.1 hu).1; rw [u8s_len, hxl] at h_; exact h_) ((flat_atL ok.szP hx (by have h_ := (List.getElem?_eq_some_iff.1 hu).1; rw [u8s_len, hxl] at h_; exact h_)).trans hu)
    refine TF.loadN (cs := u8s x) rfl rfl (wantF_none rfl) (Try.sz60) rfl rfl (u8s_len256 hxl) hc_ ?_
    refine TF.call (args := [(.agg ⟨u8s x⟩)]) Try.fn33 rfl rfl (wantF_none rfl) rfl (plbytes_ok x _ hxl) ?_
    rintro e_ w ⟨A7, n7, c7, rfl, hn7⟩
    refine ⟨_, rfl, ?_⟩
    replace H := H.newS hn7
    have hz_ := (H.rdB (k := 0) rfl).length
    refine TF.call (args := [(.int .i64 _), (.slice _ _ _)]) Try.fn26 rfl rfl (wantF_none rfl) rfl (decode_ok _ _ _ _ _ _ (H.rd (k := 0) rfl) (by omega) (by omega) (by omega)) ?_
    rintro e_ w ⟨rfl, hb9⟩
    refine ⟨_, rfl, ?_⟩
    replace H := H.below hb9
    refine TF.u (v := (.agg ⟨pgV ((decS (k : Int) x).1)⟩)) rfl rfl (pr_extract (vs := _) rfl rfl) ?_
    refine TF.u (v := (.int .i64 _)) rfl rfl (pr_extract (vs := _) rfl rfl) ?_
    refine TF.storeN (q := 1) (cs' := pgV ((decS (k : Int) x).1)) H rfl rfl rfl (wantF_none rfl) (Try.ty27.s) rfl rfl (pgV_len (decS_ok (k : Int) x).len) (pgV_one _) (by have h_ : (pgV noPg).length = 17 := (pgV_len noPg_ok.len); omega) (store_all (pgV_len noPg_ok.len)) ?_
    clear H
    intro w ho10 H
    replace H : Sat _ _ _ [_, _] := H
    refine TF.u (v := (.int .i64 _)) rfl rfl (pr_assign rfl) ?_
    refine TF.nil (nx_then ?_)
    refine cw_ret (finC2 (v := (.int .i64 _)) (cs := pgV ((decS (k : Int) x).1)) Try.results15 rfl rfl (Try.ty27.s) rfl rfl (H.blk (k := 1) rfl) (pgV_len (decS_ok (k : Int) x).len) rfl ?_)
    rw [sRead, if_pos (by assumption), hxe]
    exact ⟨rfl, H.base⟩

theorem simage_ok (sb : Nat) (s : SS) (F : List Nat) (id : Int) (w0 : World) (hF : (cStore 60 65 sb (s)).p w0 F) (ok : SOk s) (h1 : -9223372036854775808 ≤ id) (h2 : id ≤ 9223372036854775807) :
    Calls Try.prog 14 #[.pointer (some ⟨sb, 0, none⟩), .int .i64 id] w0 fun e w => ∃ A1 n1 c1, e = .returned (.tuple #[.slice A1 n1 c1, .int .i64 (sImage s id).2]) ∧ NewB w0 w 5 A1 n1 c1 (sImage s id).1 := by
  refine enter (args := [.pointer (some ⟨sb, 0, none⟩), .int .i64 id]) Try.func14 rfl Try.ntmps14 rfl ?_
  have H := Sat.start w0
  obtain ⟨A, n_, c, hblk, hrow⟩ := cStore_rd hF
  have hn_ : s.pl.length = n_ := row_len ok hrow
  obtain ⟨hk1, hk2, hk3, hk4, hk5⟩ := (show SOk s from ok)
  refine cw_seq ?_
  -- region 0 store.go:141
  refine cw_region (clf [.U, .U]) [0, 1] rfl (by kernel_rfl) (by decide) ?_
  refine TF.u (v := (.slice _ _ _)) rfl rfl (pr_assign rfl) ?_
  refine TF.u (v := (.int .i64 _)) rfl rfl (pr_assign rfl) ?_
  refine TF.nil (nx_then ?_)
  refine cw_seq ?_
  refine cw_seq ?_
  -- region 1 store.go:142
  refine cw_region (clf [.U, .U, .X, .U]) [0, 1, 2, 3] rfl (by kernel_rfl) (by decide) ?_
  refine TF.u (v := (.pointer (some ⟨_, 0, none⟩))) rfl rfl (pr_move rfl) ?_
  refine TF.u (v := (.int .i64 _)) rfl rfl (pr_move rfl) ?_
  refine TF.call (args := [(.pointer (some ⟨_, 0, none⟩)), (.int .i64 _)]) Try.fn29 rfl rfl (wantF_none rfl) rfl (sthere_ok _ _ _ _ _ (Chk.belowS _ hF H.base) ok (by omega) (by omega)) ?_
  rintro e_ w ⟨rfl, hb1⟩
  refine ⟨_, rfl, ?_⟩
  replace H := H.below hb1
  refine TF.u (v := (.bool _)) rfl rfl (pr_not rfl) ?_
  refine TF.nil (nx_then ?_)
  refine cw_cond _ rfl rfl (fun hq3 => ?_) (fun hq3 => ?_)
  ·
    have hp3 := (nT hq3)
    refine cw_seq ?_
    -- region 2 store.go:143
    refine cw_region (clf [.U, .U]) [0, 1] rfl (by kernel_rfl) (by decide) ?_
    refine TF.u (v := (.slice _ _ _)) rfl rfl (pr_assign rfl) ?_
    refine TF.u (v := (.int .i64 _)) rfl rfl (pr_assign rfl) ?_
    refine TF.nil (nx_then ?_)
    refine cw_ret (rt_then (fin2 (v := (.slice _ _ _)) (v' := (.int .i64 _)) Try.results14 rfl rfl rfl rfl ?_))
    rw [sImage, if_neg (by simp_all)]
    exact ⟨_, _, _, rfl, NewS.nilB H.base _ _⟩
  ·
    have hp3 := (nF hq3)
    refine cw_skip (nx_then ?_)
    refine cw_seq ?_
    -- region 3 store.go:145
    refine cw_region (clf [.U, .U, .U, .X, .U, .U, .X, .X, .U, .U]) [0, 1, 2, 3, 4, 5, 6, 7, 8, 9] rfl (by kernel_rfl) (by decide) ?_
    obtain ⟨k, x, rfl, hk, hx, hxl, hxe⟩ := ok.pl_at (by assumption)
    refine TF.u (v := (.pointer (some ⟨_, 0, none⟩))) rfl rfl (pr_move rfl) ?_
    refine TF.u (v := (.pointer (some _))) rfl rfl (pr_nil rfl) ?_
    refine TF.u (v := (.pointer (some ⟨_, 0, none⟩))) rfl rfl (pr_field (o' := 0) Try.underlying65 rfl (Try.ty57.s) (by decide) rfl rfl) ?_
    refine TF.load (v := (.slice A n_ c)) rfl rfl (wantF_none rfl) Try.underlying57 rfl rfl ((hblk.below H.base).at_ rfl) ?_
    refine TF.u (v := (.int .i64 _)) rfl rfl (pr_move rfl) ?_
    refine TF.idx (hrow.below H.base) rfl rfl (wantF_none rfl) Try.underlying57 (Try.sz60) rfl rfl (by omega) (by omega) ?_
    intro p_ hc_
    replace hc_ : ∀ j u, (u8s x)[j]? = some u → _ := fun j u hu => hc_ j u (by have h_ := (List.getElem?_eq_some_iff.1 hu).1; rw [u8s_len, hxl] at h_; exact h_) ((flat_atL ok.szP hx (by have h_ := (List.getElem?_eq_some_iff.1 hu).1; rw [u8s_len, hxl] at h_; exact h_)).trans hu)
    refine TF.loadN (cs := u8s x) rfl rfl (wantF_none rfl) (Try.sz60) rfl rfl (u8s_len256 hxl) hc_ ?_
    refine TF.call (args := [(.agg ⟨u8s x⟩)]) Try.fn33 rfl rfl (wantF_none rfl) rfl (plbytes_ok x _ hxl) ?_
    rintro e_ w ⟨A4, n4, c4, rfl, hn4⟩
    refine ⟨_, rfl, ?_⟩
    replace H := H.newS hn4
    refine TF.u (v := (.slice _ _ _)) rfl rfl (pr_assign rfl) ?_
    refine TF.u (v := (.int .i64 _)) rfl rfl (pr_assign rfl) ?_
    refine TF.nil (nx_then ?_)
    refine cw_ret (fin2 (v := (.slice _ _ _)) (v' := (.int .i64 _)) Try.results14 rfl rfl rfl rfl ?_)
    rw [sImage, if_pos (by assumption), hxe]
    exact ⟨_, _, _, rfl, H.toNew (k := 0) rfl⟩

theorem sout_ok (sb : Nat) (s : SS) (F : List Nat) (n : Int) (w0 : World) (hF : (cStore 60 65 sb (s)).p w0 F) (ok : SOk s) (h1 : -9223372036854775808 ≤ n) (h2 : n ≤ 9223372036854775807) :
    Calls Try.prog 18 #[.pointer (some ⟨sb, 0, none⟩), .int .i64 n] w0 fun e w => e = .returned (.bool (sOut s n)) ∧ Below w0.heap.size w0 w := by
  refine enter (args := [.pointer (some ⟨sb, 0, none⟩), .int .i64 n]) Try.func18 rfl Try.ntmps18 rfl ?_
  have H := Sat.start w0
  obtain ⟨A, n_, c, hblk, hrow⟩ := cStore_rd hF
  have hn_ : s.pl.length = n_ := row_len ok hrow
  obtain ⟨hk1, hk2, hk3, hk4, hk5⟩ := (show SOk s from ok)
  refine cw_seq ?_
  -- region 0 store.go:149
  refine cw_region (clf [.U]) [0] rfl (by kernel_rfl) (by decide) ?_
  refine TF.u (v := (.bool _)) rfl rfl (pr_assign rfl) ?_
  refine TF.nil (nx_then ?_)
  refine cw_seq ?_
  -- region 1 store.go:149
  refine cw_region (clf [.U, .X, .U, .U, .U, .X, .U, .U, .U, .U, .U, .U, .U, .U, .X, .U, .U]) [0, 1, 2, 3, 4, 5, 6, 7, 8, 9, 10, 11, 12, 13, 14, 15, 16] rfl (by kernel_rfl) (by decide) ?_
  refine TF.u (v := (.pointer (some ⟨_, 0, none⟩))) rfl rfl (pr_move rfl) ?_
  refine TF.call (args := [(.pointer (some ⟨_, 0, none⟩))]) Try.fn17 rfl rfl (wantF_none rfl) rfl (spages_ok _ _ _  _ (Chk.belowS _ hF H.base) ok ) ?_
  rintro e_ w ⟨rfl, hb1⟩
  refine ⟨_, rfl, ?_⟩
  replace H := H.below hb1
  refine TF.u (v := (.bool _)) rfl rfl (pr_gtr rfl rfl) ?_
  refine TF.u (v := (.bool _)) rfl rfl (pr_move rfl) ?_
  refine TF.split (dj := 8) rfl (fun hq3 => ?_) (fun hq3 => ?_)
  ·
    have hp3 := dT hq3
    refine TF.ug (v := (.int .i64 _)) rfl rfl (wantF_yes rfl rfl rfl hq3) (pr_move rfl) ?_
    refine TF.call (args := [(.int .i64 _)]) Try.fn28 rfl rfl (wantF_yes rfl rfl rfl hq3) rfl (snode_ok _ _ (by omega) (by omega)) ?_
    rintro e_ w ⟨rfl, hb4⟩
    refine ⟨_, rfl, ?_⟩
    replace H := H.below hb4
    refine TF.u (v := (.bool _)) rfl rfl (pr_pickT rfl hq3 rfl) ?_
    refine TF.u (v := (.bool _)) rfl rfl (pr_move rfl) ?_
    refine TF.split (dj := 12) rfl (fun hq6 => ?_) (fun hq6 => ?_)
    ·
      have hp6 := hq6
      obtain ⟨j, a_, rfl, hj, ha_, hae, ham⟩ := ok.ar_at (by assumption)
      refine TF.ug (v := (.pointer _)) rfl rfl (wantF_yes rfl rfl rfl hq6) (pr_move rfl) ?_
      skip
      refine TF.ug (v := (.int .i64 _)) rfl rfl (wantF_yes rfl rfl rfl hq6) (pr_move rfl) ?_
      refine TF.ug (v := (.pointer (some _))) rfl rfl (wantF_yes rfl rfl rfl hq6) (pr_nil rfl) ?_
      refine TF.ug (v := (.pointer (some ⟨_, 1, none⟩))) rfl rfl (wantF_yes rfl rfl rfl hq6) (pr_field (o' := 1) Try.underlying65 rfl (Try.sz63) (by decide) rfl rfl) ?_
      obtain ⟨o7, ho7⟩ : ∃ o, s.ar[j]? = some o := ⟨_, List.getElem?_eq_getElem (by rw [(ok.arOk).1]; omega)⟩
      refine TF.ug (v := (.pointer (some ⟨_, _, none⟩))) rfl rfl (wantF_yes rfl rfl rfl hq6) (pr_idxA Try.underlying63 (Try.sz62) rfl rfl (by omega) (by omega)) ?_
      refine TF.ug (v := (.pointer (some ⟨_, _, none⟩))) rfl rfl (wantF_yes rfl rfl rfl hq6) (pr_field (o' := _) Try.underlying62 rfl (Try.ty4.s) (by decide) rfl rfl) ?_
      refine TF.load (v := (.bool o7.out)) rfl rfl (wantF_yes rfl rfl rfl hq6) Try.underlying4 rfl rfl ((hblk.below H.base).at_ (sb_out ok.arOk ho7)) ?_
      refine TF.u (v := (.bool o7.out)) rfl rfl (pr_pickT rfl hq6 rfl) ?_
      refine TF.u (v := (.bool o7.out)) rfl rfl (pr_assign rfl) ?_
      refine TF.nil (nx_then ?_)
      refine cw_ret (fin1 (v := (.bool o7.out)) Try.results18 rfl rfl ?_)
      exact ⟨by simp only [sOut]; first | (simp_all; done) | (simp_all; omega), H.base⟩
    ·
      have hp6 := hq6
      refine TF.skip rfl (wantF_no rfl rfl rfl hq6) ?_
      refine TF.skip rfl (wantF_no rfl rfl rfl hq6) ?_
      refine TF.skip rfl (wantF_no rfl rfl rfl hq6) ?_
      refine TF.skip rfl (wantF_no rfl rfl rfl hq6) ?_
      refine TF.skip rfl (wantF_no rfl rfl rfl hq6) ?_
      refine TF.skip rfl (wantF_no rfl rfl rfl hq6) ?_
      refine TF.skip rfl (wantF_no rfl rfl rfl hq6) ?_
      refine TF.u (v := (.bool _)) rfl rfl (pr_pickF rfl hq6 rfl) ?_
      refine TF.u (v := (.bool _)) rfl rfl (pr_assign rfl) ?_
      refine TF.nil (nx_then ?_)
      refine cw_ret (fin1 (v := (.bool _)) Try.results18 rfl rfl ?_)
      exact ⟨by simp only [sOut]; first | (simp_all; done) | (simp_all; omega), H.base⟩
  ·
    have hp3 := dF hq3
    refine TF.skip rfl (wantF_no rfl rfl rfl hq3) ?_
    refine TF.skip rfl (wantF_no rfl rfl rfl hq3) ?_
    refine TF.u (v := (.bool _)) rfl rfl (pr_pickF rfl hq3 rfl) ?_
    refine TF.u (v := (.bool _)) rfl rfl (pr_move rfl) ?_
    refine TF.skip rfl (wantF_no rfl rfl rfl rfl) ?_
    refine TF.skip rfl (wantF_no rfl rfl rfl rfl) ?_
    refine TF.skip rfl (wantF_no rfl rfl rfl rfl) ?_
    refine TF.skip rfl (wantF_no rfl rfl rfl rfl) ?_
    refine TF.skip rfl (wantF_no rfl rfl rfl rfl) ?_
    refine TF.skip rfl (wantF_no rfl rfl rfl rfl) ?_
    refine TF.skip rfl (wantF_no rfl rfl rfl rfl) ?_
    refine TF.u (v := (.bool _)) rfl rfl (pr_pickF rfl rfl rfl) ?_
    refine TF.u (v := (.bool _)) rfl rfl (pr_assign rfl) ?_
    refine TF.nil (nx_then ?_)
    refine cw_ret (fin1 (v := (.bool _)) Try.results18 rfl rfl ?_)
    exact ⟨by simp only [sOut]; first | (simp_all; done) | (simp_all; omega), H.base⟩

theorem snew_ok (pages : Int) (w0 : World) (h1 : -9223372036854775808 ≤ pages) (h2 : pages ≤ 9223372036854775807) :
    Calls Try.prog 12 #[.int .i64 pages] w0 fun e w => ∃ sb, e = .returned (.pointer (some ⟨sb, 0, none⟩)) ∧ NewC (cStore 60 65 sb (sNew pages)) w0 w ∧ SOk (sNew pages) := by
  refine enter (args := [.int .i64 pages]) Try.func12 rfl Try.ntmps12 rfl ?_
  have H := Sat.start w0
  refine cw_seq ?_
  -- region 0 store.go:46
  refine cw_region (clf [.U]) [0] rfl (by kernel_rfl) (by decide) ?_
  refine TF.u (v := (.pointer _)) rfl rfl (pr_assign rfl) ?_
  refine TF.nil (nx_then ?_)
  refine cw_seq ?_
  -- region 1 store.go:47
  refine cw_region (clf [.U, .X, .U]) [0, 1, 2] rfl (by kernel_rfl) (by decide) ?_
  refine TF.u (v := (.agg ⟨sbV noSB⟩)) rfl rfl (pr_build (cs := sbV noSB) Try.bld65 rfl rfl) ?_
  refine TF.box (v := (.agg ⟨sbV noSB⟩)) H rfl (Cx.xx rfl) (wantF_none rfl) rfl rfl ?_
  clear H
  intro bk1 w hltbk1 hb2 H
  refine TF.u (v := (.pointer (some ⟨_, 0, none⟩))) rfl rfl (pr_assign rfl) ?_
  refine TF.nil (nx_then ?_)
  refine cw_seq ?_
  refine cw_seq ?_
  -- region 2 store.go:48
  refine cw_region (clf [.U, .U, .U, .U]) [0, 1, 2, 3] rfl (by kernel_rfl) (by decide) ?_
  refine TF.u (v := (.int .i64 _)) rfl rfl (pr_move rfl) ?_
  refine TF.u (v := (.int .i64 _)) rfl rfl (pr_min2 rfl rfl rfl) ?_
  refine TF.u (v := (.int .i64 _)) rfl rfl (pr_max2 rfl rfl (show _ = ((numPl pages : Nat) : Int) by unfold numPl; omega)) ?_
  refine TF.u (v := (.int .i64 _)) rfl rfl (pr_move rfl) ?_
  refine TF.nil (nx_then ?_)
  refine cw_block ?_
  refine cw_loop (fun m_q f_q w => ∃ (g_ : Nat → Value) (i : Nat) (A1 : Option Addr) (c1 : Nat), m_q = numPl pages - i ∧ f_q = (upd (upd (upd g_ 3 (.pointer (some ⟨bk1, 0, none⟩))) 11 (.int .i64 ((numPl pages : Nat) : Int))) 12 (.int .i64 (i : Int))) ∧ Sat [] w0 w [cOwn 60 256 A1 i c1 (((List.range (i)).map fun q => imageS q noPg).flatMap u8s), cBlk bk1 65 (sbV (SB.mk A1 i c1 (List.replicate 8 noAr)))] ∧ (i ≤ numPl pages)) (numPl pages - 0) ?_ ?_
  ·
    exact ⟨_, 0, _, _, rfl, (cutS (cutS (cutS rfl rfl) rfl) rfl), (H.newS (NewS.nil _ 60 256)), Nat.zero_le _⟩
  ·
    clear H
    rintro m_ f_ w ⟨g_, i, A1, c1, rfl, rfl, H, hi⟩
    refine cw_seq ?_
    -- region 3 store.go:48
    refine cw_region (clf [.U]) [0] rfl (by kernel_rfl) (by decide) ?_
    refine TF.u (v := (.bool _)) rfl rfl (pr_lss rfl rfl) ?_
    refine TF.nil (nx_then ?_)
    refine cw_seq ?_
    refine cw_cond _ rfl rfl (fun hq4 => ?_) (fun hq4 => ?_)
    ·
      have hp4 := dT hq4
      refine cw_skip (nx_then ?_)
      refine cw_seq ?_
      refine cw_block ?_
      refine cw_seq ?_
      -- region 4 store.go:48
      refine cw_region (clf [.U, .U]) [0, 1] rfl (by kernel_rfl) (by decide) ?_
      refine TF.u (v := (.int .i64 _)) rfl rfl (pr_move rfl) ?_
      refine TF.u (v := (.int .i64 _)) rfl rfl (pr_assign rfl) ?_
      refine TF.nil (nx_then ?_)
      refine cw_seq ?_
      -- region 5 store.go:49
      refine cw_region (clf [.U, .U, .X, .U, .U, .U, .X, .X, .U]) [0, 1, 2, 3, 4, 5, 6, 7, 8] rfl (by kernel_rfl) (by decide) ?_
      have hnp : numPl pages ≤ 32 := by unfold numPl; omega
      refine TF.u (v := (.int .i64 _)) rfl rfl (pr_move rfl) ?_
      refine TF.u (v := (.agg ⟨pgV noPg⟩)) rfl rfl (pr_build (cs := pgV noPg) Try.bld27 rfl rfl) ?_
      refine TF.call (args := [(.int .i64 _), (.agg ⟨pgV noPg⟩)]) Try.fn27 rfl rfl (wantF_none rfl) rfl (sectors_ok (i : Int) noPg noPg_ok _ (by omega) (by omega)) ?_
      rintro e_ w ⟨rfl, hb5⟩
      refine ⟨_, rfl, ?_⟩
      replace H := H.below hb5
      refine TF.u (v := (.tuple _)) rfl rfl (pr_move rfl) ?_
      refine TF.u (v := (.agg ⟨u8s ((secS (i : Int) noPg).1)⟩)) rfl rfl (pr_extract (vs := _) rfl rfl) ?_
      refine TF.u (v := (.int .i64 _)) rfl rfl (pr_extract (vs := _) rfl rfl) ?_
      refine TF.alloc H rfl (Cx.xx rfl) (wantF_none rfl) (Try.ty60) rfl ?_
      clear H
      intro bk6 w hltbk6 hb7 H
      replace H : Sat _ _ _ (cBlk _ _ (u8s zeroP) :: _) := H
      replace H : Sat _ _ _ [_, _, _] := H
      refine TF.storeN (q := 0) (cs' := u8s ((secS (i : Int) noPg).1)) H rfl rfl rfl (wantF_none rfl) (Try.sz60) rfl rfl (u8s_len256 (secS_len noPg_ok.len)) (u8s_one' _) (by have h_ : (u8s zeroP).length = 256 := (u8s_len256 rfl); omega) (store_all (u8s_len256 rfl)) ?_
      clear H
      intro w ho8 H
      replace H : Sat _ _ _ [_, _, _] := H
      refine TF.u (v := (.int .i64 _)) rfl rfl (pr_assign rfl) ?_
      refine TF.nil (nx_then ?_)
      -- region 6 store.go:50
      refine cw_drawS H Try.wide_ (clf [.U, .U, .U, .U, .R, .R, .P, .X, .U, .U, .X]) [0, 1, 2, 3, 4, 5, 6, 7, 8, 9, 10] (by kernel_rfl) (by kernel_rfl) ?_
      clear H
      intro w hbr H hB
      have hsi : (secS (i : Int) noPg).1 = imageS i noPg := secS_noPg (by omega)
      refine TF.u (v := (.pointer (some ⟨_, 0, none⟩))) rfl rfl (pr_move rfl) ?_
      refine TF.u (v := (.pointer (some ⟨_, 0, none⟩))) rfl rfl (pr_move rfl) ?_
      refine TF.u (v := (.pointer (some _))) rfl rfl (pr_nil rfl) ?_
      refine TF.u (v := (.pointer (some ⟨_, 0, none⟩))) rfl rfl (pr_field (o' := 0) Try.underlying65 rfl (Try.ty57.s) (by decide) rfl rfl) ?_
      refine TF.loadr (v := (.slice A1 i c1)) rfl rfl (wantF_none rfl) Try.underlying57 rfl rfl ((H.blk (k := 2) rfl).atB rfl) ?_
      refine TF.loadEr (cs' := u8s ((secS (i : Int) noPg).1)) rfl rfl (wantF_none rfl) (Try.sz60) rfl rfl (H.blk (k := 0) rfl) (u8s_len256 (secS_len noPg_ok.len)) (u8s_all (secS_len noPg_ok.len)) (fun _ h => h) ?_
      refine TF.lit (vs := [.agg ⟨u8s ((secS (i : Int) noPg).1)⟩]) H rfl (Cx.re hB rfl) (wantF_none rfl) Try.underlying57 (Try.ty60) rfl rfl rfl rfl rfl (by simp [Value.cells, u8s_len256 (secS_len noPg_ok.len)]) ?_
      clear H
      intro bk9 w hltbk9 hb10 H
      replace hB := Below.refl w.heap.size w
      replace H : Sat _ _ _ (cBlk _ _ (u8s ((secS (i : Int) noPg).1) ++ []) :: _) := H
      rw [List.append_nil] at H
      replace H : Sat _ _ _ [_, _, _, _] := H
      skip
      refine TF.append (q := 2) (v := (.slice _ _ _)) H rfl rfl rfl (wantF_none rfl) Try.underlying57 (Try.ty60) rfl Try.underlying57 (.inr ⟨_, rfl⟩) rfl rfl (Src.rd ((H.blk (k := 0) rfl).own 1 (by rw [u8s_len256 (secS_len noPg_ok.len)]) (by decide)).rd (fun _ => u8s_one)) (by unfold maxLen; first | omega | (simp only [List.length_append, List.length_cons, List.length_nil]; omega)) (by first | omega | (simp only [List.length_append, List.length_cons, List.length_nil]; omega)) ?_
      clear H
      intro Arow_11 crow_11 w ho11 H
      replace H : Sat _ _ _ [_, _, _, _] := H
      skip
      refine TF.u (v := (.pointer (some _))) rfl rfl (pr_nil rfl) ?_
      refine TF.u (v := (.pointer (some ⟨_, 0, none⟩))) rfl rfl (pr_field (o' := 0) Try.underlying65 rfl (Try.ty57.s) (by decide) rfl rfl) ?_
      refine TF.store (v := (.slice _ _ _)) (q := 3) H rfl rfl rfl (wantF_none rfl) (Try.ty57.s) rfl rfl rfl rfl ?_
      clear H
      intro w ho12 H
      replace H : Sat _ _ _ [_, _, _, _] := H
      replace H : Sat _ _ _ [_, _, _, cBlk _ _ (sbV (SB.mk Arow_11 (i + 1) crow_11 (List.replicate 8 noAr)))] := H
      rw [hsi] at H
      clear hB
      refine TF.nil (nx_block (nx_then ?_))
      -- region 7 store.go:48
      refine cw_region (clf [.U, .U]) [0, 1] rfl (by kernel_rfl) (by decide) ?_
      refine TF.u (v := (.int .i64 _)) rfl rfl (pr_add rfl rfl (IntWalk.i64_in _ (by omega))) ?_
      refine TF.u (v := (.int .i64 _)) rfl rfl (pr_move rfl) ?_
      refine TF.nil (nx_loop (m' := numPl pages - (i + 1)) (by omega) ?_)
      exact ⟨_, i + 1, _, _, rfl, (cutS (cutS (cutS rfl rfl) rfl) rfl), (by rw [List.range_succ, List.map_append, List.flatMap_append]; simp only [List.map_cons, List.map_nil, List.flatMap_cons, List.flatMap_nil, List.append_nil]; exact H.two (i := 2) (j := 2) rfl rfl), by omega⟩
    ·
      have hp4 := dF hq4
      refine cw_exit (ex_then (ex_then (ex_here (nx_then ?_))))
      refine cw_seq ?_
      -- region 8 store.go:52
      refine cw_region (clf [.U, .U]) [0, 1] rfl (by kernel_rfl) (by decide) ?_
      refine TF.u (v := (.pointer (some ⟨_, 0, none⟩))) rfl rfl (pr_move rfl) ?_
      refine TF.u (v := (.pointer (some ⟨_, 0, none⟩))) rfl rfl (pr_assign rfl) ?_
      refine TF.nil (nx_then ?_)
      refine cw_ret (fin1 (v := (.pointer (some ⟨_, 0, none⟩))) Try.results12 rfl rfl ?_)
      obtain rfl : i = numPl pages := by omega
      have H9 : Sat [] w0 _ [cStore 60 65 bk1 (sNew pages)] := Sat.ex (A1, numPl pages, c1) H.sep
      exact ⟨_, rfl, H9.toNewC (k := 0) rfl, sNew_ok _⟩

theorem swrite_ok (sb : Nat) (s : SS) (F : List Nat) (n id m : Int) (p : PG) (okp : POk p) (w0 : World) (hF : (cStore 60 65 sb (s)).p w0 F) (ok : SOk s) (hn1 : -9223372036854775808 ≤ n) (hn2 : n ≤ 9223372036854775807) (h1 : -9223372036854775808 ≤ id) (h2 : id ≤ 9223372036854775807) (hm1 : -9223372036854775808 ≤ m) (hm2 : m ≤ 9223372036854775807) :
    Calls Try.prog 13 #[.pointer (some ⟨sb, 0, none⟩), .int .i64 n, .int .i64 id, .agg ⟨pgV p⟩, .int .i64 m] w0 fun e w => e = .returned (.int .i64 (sWrite s n id p m).2) ∧ Upd (cStore 60 65 sb ((sWrite s n id p m).1)) F w0 w ∧ SOk ((sWrite s n id p m).1) := by
  refine enter (args := [.pointer (some ⟨sb, 0, none⟩), .int .i64 n, .int .i64 id, .agg ⟨pgV p⟩, .int .i64 m]) Try.func13 rfl Try.ntmps13 rfl ?_
  have H := Sat.start1 hF
  have hpl2 := ok.pl2
  refine cw_seq ?_
  -- region 0 store.go:92
  refine cw_region (clf [.X, .U]) [0, 1] rfl (by kernel_rfl) (by decide) ?_
  refine TF.box (v := (.agg ⟨pgV p⟩)) H rfl (Cx.xx rfl) (wantF_none rfl) rfl rfl ?_
  clear H
  intro bk1 w hltbk1 hb2 H
  refine TF.u (v := (.int .i64 _)) rfl rfl (pr_assign rfl) ?_
  refine TF.nil (nx_then ?_)
  refine cw_seq ?_
  refine cw_seq ?_
  -- region 1 store.go:93
  refine cw_region (clf [.U, .X, .U, .U, .U, .U, .X, .U, .U, .U, .U, .X, .U, .U]) [0, 1, 2, 3, 4, 5, 6, 7, 8, 9, 10, 11, 12, 13] rfl (by kernel_rfl) (by decide) ?_
  refine TF.u (v := (.int .i64 _)) rfl rfl (pr_move rfl) ?_
  refine TF.call (args := [(.int .i64 _)]) Try.fn28 rfl rfl (wantF_none rfl) rfl (snode_ok _ _ (by omega) (by omega)) ?_
  rintro e_ w ⟨rfl, hb3⟩
  refine ⟨_, rfl, ?_⟩
  replace H := H.below hb3
  refine TF.u (v := (.bool _)) rfl rfl (pr_not rfl) ?_
  refine TF.u (v := (.bool _)) rfl rfl (pr_move rfl) ?_
  refine TF.split (dj := 19) rfl (fun hq5 => ?_) (fun hq5 => ?_)
  ·
    have hp5 := (nT hq5)
    refine TF.skip rfl (wantF_no rfl rfl rfl (bnF (nT hq5))) ?_
    refine TF.skip rfl (wantF_no rfl rfl rfl (bnF (nT hq5))) ?_
    refine TF.skip rfl (wantF_no rfl rfl rfl (bnF (nT hq5))) ?_
    refine TF.skip rfl (wantF_no rfl rfl rfl (bnF (nT hq5))) ?_
    refine TF.u (v := (.bool _)) rfl rfl (pr_pickT rfl (bnF (nT hq5)) rfl) ?_
    refine TF.u (v := (.bool _)) rfl rfl (pr_move rfl) ?_
    refine TF.skip rfl (wantF_no rfl rfl rfl rfl) ?_
    refine TF.skip rfl (wantF_no rfl rfl rfl rfl) ?_
    refine TF.skip rfl (wantF_no rfl rfl rfl rfl) ?_
    refine TF.u (v := (.bool _)) rfl rfl (pr_pickT rfl rfl rfl) ?_
    refine TF.nil (nx_then ?_)
    refine cw_condT (t := _) rfl rfl rfl ?_
    refine cw_seq ?_
    -- region 2 store.go:94
    refine cw_region (clf [.U]) [0] rfl (by kernel_rfl) (by decide) ?_
    refine TF.u (v := (.int .i64 _)) rfl rfl (pr_assign rfl) ?_
    refine TF.nil (nx_then ?_)
    refine cw_ret (rt_then (fin1 (v := (.int .i64 _)) Try.results13 rfl rfl ?_))
    rw [sWrite_1 (by rintro ⟨h1_, h2_, h3_⟩; simp_all)]
    have H9 := H.only1 (i := 1) rfl
    exact ⟨rfl, H9.toUpd (k := 0) rfl, ok⟩
  ·
    have hp5 := (nF hq5)
    refine TF.ug (v := (.pointer (some ⟨_, 0, none⟩))) rfl rfl (wantF_yes rfl rfl rfl (bnT (nF hq5))) (pr_move rfl) ?_
    refine TF.ug (v := (.int .i64 _)) rfl rfl (wantF_yes rfl rfl rfl (bnT (nF hq5))) (pr_move rfl) ?_
    obtain ⟨F8, hF8, hU8⟩ := H.focus (k := 1) rfl
    refine TF.call (args := [(.pointer (some ⟨_, 0, none⟩)), (.int .i64 _)]) Try.fn29 rfl rfl (wantF_yes rfl rfl rfl (bnT (nF hq5))) rfl (sthere_ok _ _ _ _ _ hF8 ok (by omega) (by omega)) ?_
    rintro e_ w ⟨rfl, hb6⟩
    refine ⟨_, rfl, ?_⟩
    replace H := H.below hb6
    refine TF.ug (v := (.bool _)) rfl rfl (wantF_yes rfl rfl rfl (bnT (nF hq5))) (pr_not rfl) ?_
    refine TF.u (v := (.bool _)) rfl rfl (pr_pickF rfl (bnT (nF hq5)) rfl) ?_
    refine TF.u (v := (.bool _)) rfl rfl (pr_move rfl) ?_
    refine TF.split (dj := 25) rfl (fun hq9 => ?_) (fun hq9 => ?_)
    ·
      have hp9 := (nT hq9)
      refine TF.skip rfl (wantF_no rfl rfl rfl (bnF (nT hq9))) ?_
      refine TF.skip rfl (wantF_no rfl rfl rfl (bnF (nT hq9))) ?_
      refine TF.skip rfl (wantF_no rfl rfl rfl (bnF (nT hq9))) ?_
      refine TF.u (v := (.bool _)) rfl rfl (pr_pickT rfl (bnF (nT hq9)) rfl) ?_
      refine TF.nil (nx_then ?_)
      refine cw_condT (t := _) rfl rfl rfl ?_
      refine cw_seq ?_
      -- region 2 store.go:94
      refine cw_region (clf [.U]) [0] rfl (by kernel_rfl) (by decide) ?_
      refine TF.u (v := (.int .i64 _)) rfl rfl (pr_assign rfl) ?_
      refine TF.nil (nx_then ?_)
      refine cw_ret (rt_then (fin1 (v := (.int .i64 _)) Try.results13 rfl rfl ?_))
      rw [sWrite_1 (by rintro ⟨h1_, h2_, h3_⟩; simp_all)]
      have H9 := H.only1 (i := 1) rfl
      exact ⟨rfl, H9.toUpd (k := 0) rfl, ok⟩
    ·
      have hp9 := (nF hq9)
      refine TF.ug (v := (.int .i64 _)) rfl rfl (wantF_yes rfl rfl rfl (bnT (nF hq9))) (pr_move rfl) ?_
      refine TF.call (args := [(.int .i64 _)]) Try.fn30 rfl rfl (wantF_yes rfl rfl rfl (bnT (nF hq9))) rfl (whole_ok _ _ (by omega) (by omega)) ?_
      rintro e_ w ⟨rfl, hb10⟩
      refine ⟨_, rfl, ?_⟩
      replace H := H.below hb10
      refine TF.ug (v := (.bool _)) rfl rfl (wantF_yes rfl rfl rfl (bnT (nF hq9))) (pr_not rfl) ?_
      refine TF.u (v := (.bool _)) rfl rfl (pr_pickF rfl (bnT (nF hq9)) rfl) ?_
      refine TF.nil (nx_then ?_)
      refine cw_cond _ rfl rfl (fun hq12 => ?_) (fun hq12 => ?_)
      ·
        have hp12 := (nT hq12)
        refine cw_seq ?_
        -- region 2 store.go:94
        refine cw_region (clf [.U]) [0] rfl (by kernel_rfl) (by decide) ?_
        refine TF.u (v := (.int .i64 _)) rfl rfl (pr_assign rfl) ?_
        refine TF.nil (nx_then ?_)
        refine cw_ret (rt_then (fin1 (v := (.int .i64 _)) Try.results13 rfl rfl ?_))
        rw [sWrite_1 (by rintro ⟨h1_, h2_, h3_⟩; simp_all)]
        have H9 := H.only1 (i := 1) rfl
        exact ⟨rfl, H9.toUpd (k := 0) rfl, ok⟩
      ·
        have hp12 := (nF hq12)
        refine cw_skip (nx_then ?_)
        refine cw_seq ?_
        -- region 3 store.go:96
        refine cw_region (clf [.U, .X, .X, .U, .U, .U, .X, .X, .U]) [0, 1, 2, 3, 4, 5, 6, 7, 8] rfl (by kernel_rfl) (by decide) ?_
        have h123 : nodeP n = true ∧ thereP s id = true ∧ wholeP m = true := ⟨by assumption, by assumption, by assumption⟩
        refine TF.u (v := (.int .i64 _)) rfl rfl (pr_move rfl) ?_
        refine TF.loadE (cs' := pgV p) rfl rfl (wantF_none rfl) (Try.ty27.s) rfl rfl (H.blk (k := 0) rfl) (pgV_len okp.len) (pgV_all okp.len) ?_
        refine TF.call (args := [(.int .i64 _), (.agg ⟨pgV p⟩)]) Try.fn27 rfl rfl (wantF_none rfl) rfl (sectors_ok id p okp _ (by omega) (by omega)) ?_
        rintro e_ w ⟨rfl, hb13⟩
        refine ⟨_, rfl, ?_⟩
        replace H := H.below hb13
        refine TF.u (v := (.tuple _)) rfl rfl (pr_move rfl) ?_
        refine TF.u (v := (.agg ⟨u8s ((secS id p).1)⟩)) rfl rfl (pr_extract (vs := _) rfl rfl) ?_
        refine TF.u (v := (.int .i64 _)) rfl rfl (pr_extract (vs := _) rfl rfl) ?_
        refine TF.alloc H rfl (Cx.xx rfl) (wantF_none rfl) (Try.ty60) rfl ?_
        clear H
        intro bk14 w hltbk14 hb15 H
        replace H : Sat _ _ _ (cBlk _ _ (u8s zeroP) :: _) := H
        replace H : Sat _ _ _ [_, _, _] := H
        refine TF.storeN (q := 0) (cs' := u8s ((secS id p).1)) H rfl rfl rfl (wantF_none rfl) (Try.sz60) rfl rfl (u8s_len256 (secS_len okp.len)) (u8s_one' _) (by have h_ : (u8s zeroP).length = 256 := (u8s_len256 rfl); omega) (store_all (u8s_len256 rfl)) ?_
        clear H
        intro w ho16 H
        replace H : Sat _ _ _ [_, _, _] := H
        refine TF.u (v := (.int .i64 _)) rfl rfl (pr_assign rfl) ?_
        refine TF.nil (nx_then ?_)
        refine cw_seq ?_
        refine cw_seq ?_
        -- region 4 store.go:97
        refine cw_region (clf [.U, .U]) [0, 1] rfl (by kernel_rfl) (by decide) ?_
        skip
        refine TF.u (v := (.int .i64 _)) rfl rfl (pr_move rfl) ?_
        refine TF.u (v := (.bool _)) rfl rfl (pr_neq rfl rfl) ?_
        refine TF.nil (nx_then ?_)
        refine cw_cond _ rfl rfl (fun hq18 => ?_) (fun hq18 => ?_)
        ·
          have hp18 := dF (nT hq18)
          refine cw_seq ?_
          -- region 5 store.go:98
          refine cw_region (clf [.U, .U]) [0, 1] rfl (by kernel_rfl) (by decide) ?_
          refine TF.u (v := (.int .i64 _)) rfl rfl (pr_move rfl) ?_
          refine TF.u (v := (.int .i64 _)) rfl rfl (pr_assign rfl) ?_
          refine TF.nil (nx_then ?_)
          refine cw_ret (rt_then (fin1 (v := (.int .i64 _)) Try.results13 rfl rfl ?_))
          rw [secS_2] at *
          rw [sWrite_e h123 (by assumption)]
          have H9 := H.only1 (i := 2) rfl
          exact ⟨rfl, H9.toUpd (k := 0) rfl, ok⟩
        ·
          have hp18 := dT (nF hq18)
          refine cw_skip (nx_then ?_)
          refine cw_seq ?_
          refine cw_seq ?_
          -- region 6 store.go:100
          refine cw_region (clf [.U, .U, .U, .X]) [0, 1, 2, 3] rfl (by kernel_rfl) (by decide) ?_
          rw [secS_2] at *
          have henc : (encS id p).2 = 0 := by assumption
          refine TF.u (v := (.pointer (some ⟨_, 0, none⟩))) rfl rfl (pr_move rfl) ?_
          refine TF.u (v := (.int .i64 _)) rfl rfl (pr_move rfl) ?_
          refine TF.u (v := (.int .i64 _)) rfl rfl (pr_move rfl) ?_
          obtain ⟨F21, hF21, hU21⟩ := H.focus (k := 2) rfl
          refine TF.call (args := [(.pointer (some ⟨_, 0, none⟩)), (.int .i64 _), (.int .i64 _)]) Try.fn31 rfl rfl (wantF_none rfl) rfl (sbusy_ok _ _ _ _ _ _ hF21 ok ) ?_
          rintro e_ w ⟨rfl, hb19⟩
          refine ⟨_, rfl, ?_⟩
          replace H := H.below hb19
          refine TF.nil (nx_then ?_)
          refine cw_cond _ rfl rfl (fun hq22 => ?_) (fun hq22 => ?_)
          ·
            have hp22 := hq22
            refine cw_seq ?_
            -- region 7 store.go:101
            refine cw_region (clf [.U]) [0] rfl (by kernel_rfl) (by decide) ?_
            refine TF.u (v := (.int .i64 _)) rfl rfl (pr_assign rfl) ?_
            refine TF.nil (nx_then ?_)
            refine cw_ret (rt_then (fin1 (v := (.int .i64 _)) Try.results13 rfl rfl ?_))
            rw [sWrite_b h123 henc (by assumption)]
            have H9 := H.only1 (i := 2) rfl
            exact ⟨rfl, H9.toUpd (k := 0) rfl, ok⟩
          ·
            have hp22 := hq22
            refine cw_skip (nx_then ?_)
            refine cw_seq ?_
            refine cw_seq ?_
            -- region 8 store.go:103
            refine cw_region (clf [.U, .U, .U, .X, .U, .U, .X, .X, .X, .U, .U, .U, .U, .U]) [0, 1, 2, 3, 4, 5, 6, 7, 8, 9, 10, 11, 12, 13] rfl (by kernel_rfl) (by decide) ?_
            have hbz : busyS s n id = false := by assumption
            obtain ⟨k, x, rfl, hk, hx, hxl, hxe⟩ := ok.pl_at h123.2.1
            obtain ⟨j, a_, rfl, hj, ha_, hae, ham⟩ := ok.ar_at h123.1
            obtain ⟨mk, rfl⟩ := Int.eq_ofNat_of_zero_le (wholeP_iff.1 h123.2.2).1
            obtain ⟨_, hmk, _⟩ := wholeP_iff.1 h123.2.2
            obtain ⟨_, hr, hen⟩ := encS_ok henc
            simp only [Int.toNat_natCast] at hen
            have him := imageS_len (id := k) okp.len hr
            have hse : (secS (k : Int) p).1 = imageS k p := by rw [secS_yes henc, hen]
            rw [hse] at H
            replace H := H.front 2 rfl
            obtain ⟨⟨A, n_, c⟩, H⟩ := H.unex
            replace H := H.unsep
            replace H : Sat F w0 _ (cOwn 60 256 A n_ c (s.pl.flatMap u8s) :: cBlk sb 65 (sbV (SB.mk A n_ c s.ar)) :: _) := H
            replace H : Sat _ _ _ [_, _, _, _] := H
            have hn_ : s.pl.length = n_ := row_len ok (H.rd (k := 0) rfl)
            refine TF.u (v := (.pointer (some ⟨_, 0, none⟩))) rfl rfl (pr_move rfl) ?_
            refine TF.u (v := (.pointer (some _))) rfl rfl (pr_nil rfl) ?_
            refine TF.u (v := (.pointer (some ⟨_, 0, none⟩))) rfl rfl (pr_field (o' := 0) Try.underlying65 rfl (Try.ty57.s) (by decide) rfl rfl) ?_
            refine TF.load (v := (.slice A n_ c)) rfl rfl (wantF_none rfl) Try.underlying57 rfl rfl ((H.blk (k := 1) rfl).at_ rfl) ?_
            refine TF.u (v := (.int .i64 _)) rfl rfl (pr_move rfl) ?_
            refine TF.idx (H.rd (k := 0) rfl) rfl rfl (wantF_none rfl) Try.underlying57 (Try.sz60) rfl rfl (by omega) (by omega) ?_
            intro p_ hc_
            replace hc_ : ∀ j u, (u8s x)[j]? = some u → _ := fun j u hu => hc_ j u (by have h_ := (List.getElem?_eq_some_iff.1 hu).1; rw [u8s_len, hxl] at h_; exact h_) ((flat_atL ok.szP hx (by have h_ := (List.getElem?_eq_some_iff.1 hu).1; rw [u8s_len, hxl] at h_; exact h_)).trans hu)
            refine TF.loadN (cs := u8s x) rfl rfl (wantF_none rfl) (Try.sz60) rfl rfl (u8s_len256 hxl) hc_ ?_
            refine TF.call (args := [(.agg ⟨u8s x⟩)]) Try.fn33 rfl rfl (wantF_none rfl) rfl (plbytes_ok x _ hxl) ?_
            rintro e_ w ⟨A23, n23, c23, rfl, hn23⟩
            refine ⟨_, rfl, ?_⟩
            replace H := H.newS hn23
            have hz_ := (H.rdB (k := 0) rfl).length
            refine TF.call (args := [(.slice _ _ _)]) Try.fn32 rfl rfl (wantF_none rfl) rfl (pstamp_ok _ _ _ _ _ (H.rd (k := 0) rfl) (by omega)) ?_
            rintro e_ w ⟨rfl, hb25⟩
            refine ⟨_, rfl, ?_⟩
            replace H := H.below hb25
            refine TF.u (v := (.tuple _)) rfl rfl (pr_move rfl) ?_
            refine TF.u (v := (.int .u64 _)) rfl rfl (pr_extract (vs := _) rfl rfl) ?_
            refine TF.u (v := (.bool _)) rfl rfl (pr_extract (vs := _) rfl rfl) ?_
            refine TF.u (v := (.int .u64 _)) rfl rfl (pr_assign rfl) ?_
            refine TF.u (v := (.bool _)) rfl rfl (pr_assign rfl) ?_
            refine TF.nil (nx_then ?_)
            refine cw_seq ?_
            -- region 9 store.go:103
            refine cw_region (clf [.U, .X, .U, .U]) [0, 1, 2, 3] rfl (by kernel_rfl) (by decide) ?_
            refine TF.u (v := (.pointer (some ⟨_, 0, none⟩))) rfl rfl (pr_field (o' := 0) Try.underlying27 rfl (Try.ty22.s) (by decide) rfl rfl) ?_
            refine TF.load (v := (.int .u64 (p.lsn : Int))) rfl rfl (wantF_none rfl) Try.underlying22 rfl rfl ((H.blk (k := 4) rfl).at_ rfl) ?_
            refine TF.u (v := (.int .u64 _)) rfl rfl (pr_move rfl) ?_
            refine TF.u (v := (.bool _)) rfl rfl (pr_leq rfl rfl) ?_
            refine TF.nil (nx_then ?_)
            refine cw_cond _ rfl rfl (fun hq28 => ?_) (fun hq28 => ?_)
            ·
              have hp28 := dT hq28
              refine cw_seq ?_
              -- region 10 store.go:104
              refine cw_region (clf [.U]) [0] rfl (by kernel_rfl) (by decide) ?_
              refine TF.u (v := (.int .i64 _)) rfl rfl (pr_assign rfl) ?_
              refine TF.nil (nx_then ?_)
              refine cw_ret (rt_then (fin1 (v := (.int .i64 _)) Try.results13 rfl rfl ?_))
              rw [sWrite_l h123 henc (by assumption) (by rw [hxe]; omega)]
              have H9 : Sat F w0 _ [cStore 60 65 sb (s)] := Sat.ex (_, _, _) (H.two (i := 1) (j := 1) rfl rfl).sep
              exact ⟨rfl, H9.toUpd (k := 0) rfl, ok⟩
            ·
              have hp28 := dF hq28
              refine cw_skip (nx_then ?_)
              refine cw_seq ?_
              -- region 11 store.go:106
              refine cw_region (clf [.U, .U, .U, .U, .U, .U]) [0, 1, 2, 3, 4, 5] rfl (by kernel_rfl) (by decide) ?_
              refine TF.u (v := (.pointer (some ⟨_, 0, none⟩))) rfl rfl (pr_move rfl) ?_
              refine TF.u (v := (.int .i64 _)) rfl rfl (pr_move rfl) ?_
              refine TF.u (v := (.pointer (some _))) rfl rfl (pr_nil rfl) ?_
              refine TF.u (v := (.pointer (some ⟨_, 1, none⟩))) rfl rfl (pr_field (o' := 1) Try.underlying65 rfl (Try.sz63) (by decide) rfl rfl) ?_
              obtain ⟨o29, ho29⟩ : ∃ o, s.ar[j]? = some o := ⟨_, List.getElem?_eq_getElem (by rw [(ok.arOk).1]; omega)⟩
              refine TF.u (v := (.pointer (some ⟨_, _, none⟩))) rfl rfl (pr_idxA Try.underlying63 (Try.sz62) rfl rfl (by omega) (by omega)) ?_
              refine TF.u (v := (.pointer (some ⟨_, _, none⟩))) rfl rfl (pr_assign rfl) ?_
              refine TF.nil (nx_then ?_)
              refine cw_seq ?_
              -- region 12 store.go:107
              refine cw_drawS H Try.wide_ (clf [.U, .U, .U, .R, .U, .X]) [0, 1, 2, 3, 4, 5] (by kernel_rfl) (by kernel_rfl) ?_
              clear H
              intro w hbr H hB
              refine TF.u (v := (.pointer (some ⟨_, _, none⟩))) rfl rfl (pr_move rfl) ?_
              refine TF.u (v := (.pointer (some _))) rfl rfl (pr_nil rfl) ?_
              refine TF.u (v := (.pointer (some ⟨_, _, none⟩))) rfl rfl (pr_field (o' := _) Try.underlying62 rfl (Try.sz60) (by decide) rfl rfl) ?_
              refine TF.loadEr (cs' := u8s (imageS k p)) rfl rfl (wantF_none rfl) (Try.sz60) rfl rfl (H.blk (k := 3) rfl) (u8s_len256 him) (u8s_all him) (fun _ h => h) ?_
              refine TF.u (v := (.int .i64 _)) rfl rfl (pr_move rfl) ?_
              have hB_ := H.blk (k := 2) rfl
              refine TF.call (args := [(.pointer (some ⟨_, _, none⟩)), (.agg ⟨u8s (imageS k p)⟩), (.int .i64 _)]) Try.fn34 rfl rfl (wantF_none rfl) rfl (lay_ok sb (1 + j * 258 + 0) _ (0, 0) (sbV (SB.mk A n_ c s.ar)) o29.img (imageS k p) mk _ hB_ (.inr rfl) (by have h_ := sbV_len (x := SB.mk A n_ c s.ar) ok.arOk; rw [h_]; omega) (sb_img ok.arOk ho29) (ok.arOk.at_ ho29) him (by omega)) ?_
              rintro e_ w ⟨rfl, hon_, hhp_⟩
              refine ⟨_, rfl, ?_⟩
              replace H := H.setBlk (k := 2) rfl hon_ (show Blk _ _ _ _ from hhp_)
              replace H : Sat _ _ _ [_, _, _, _, _] := H
              rw [sb_setImg _ ok.arOk ho29] at H
              obtain ⟨o30, ho30, heo30⟩ : ∃ o, (s.ar.set j (AR.mk (layB o29.img (imageS k p) mk) o29.out o29.id))[j]? = some o ∧ o = AR.mk (layB o29.img (imageS k p) mk) o29.out o29.id := ⟨_, by rw [List.getElem?_set, if_pos rfl, if_pos (by rw [ok.ar]; omega)], rfl⟩
              clear hB
              refine TF.nil (nx_then ?_)
              refine cw_seq ?_
              -- region 13 store.go:108
              refine cw_drawS H Try.wide_ (clf [.U, .U, .U, .R, .U, .U, .R, .U, .U, .X]) [0, 1, 2, 3, 4, 5, 6, 7, 8, 9] (by kernel_rfl) (by kernel_rfl) ?_
              clear H
              intro w hbr H hB
              obtain ⟨gb, rfl⟩ := H.ownSome (k := 1) rfl (by omega)
              refine TF.u (v := (.pointer (some ⟨_, 0, none⟩))) rfl rfl (pr_move rfl) ?_
              refine TF.u (v := (.pointer (some _))) rfl rfl (pr_nil rfl) ?_
              refine TF.u (v := (.pointer (some ⟨_, 0, none⟩))) rfl rfl (pr_field (o' := 0) Try.underlying65 rfl (Try.ty57.s) (by decide) rfl rfl) ?_
              refine TF.loadr (v := (.slice (some ⟨gb, 0, none⟩) n_ c)) rfl rfl (wantF_none rfl) Try.underlying57 rfl rfl ((H.blk (k := 2) rfl).atB rfl) ?_
              refine TF.u (v := (.int .i64 _)) rfl rfl (pr_move rfl) ?_
              refine TF.u (v := (.pointer (some ⟨gb, k * 256, none⟩))) rfl rfl (pr_idxO (b := gb) (o' := k * 256) Try.underlying57 (Try.sz60) rfl rfl (by omega) (by omega) (by simp)) ?_
              skip
              refine TF.loadEr (cs' := u8s (imageS k p)) rfl rfl (wantF_none rfl) (Try.sz60) rfl rfl (H.blk (k := 3) rfl) (u8s_len256 him) (u8s_all him) (fun _ h => h) ?_
              refine TF.u (v := (.int .i64 _)) rfl rfl (pr_move rfl) ?_
              refine TF.u (v := (.int .i64 _)) rfl rfl (pr_shr rfl rfl (by omega) (show _ = ((mk / 4 : Nat) : Int) from shri mk 2 (by omega))) ?_
              obtain ⟨cs_, fz_, hr1, hr2, hr3, hr4, hr5⟩ := (H.own_ (k := 1) rfl).raw (o := k * 256) (k := 256) (by omega)
              refine TF.call (args := [(.pointer (some ⟨_, _, none⟩)), (.agg ⟨u8s (imageS k p)⟩), (.int .i64 _)]) Try.fn34 rfl rfl (wantF_none rfl) rfl (lay_ok gb (k * 256) _ fz_ cs_ x (imageS k p) (mk / 4) _ hr1 hr2 hr3 (hr4.trans (flat_dropL ok.szP hx)) hxl him (by omega)) ?_
              rintro e_ w ⟨rfl, hon_, hhp_⟩
              refine ⟨_, rfl, ?_⟩
              replace H := H.setOwn (k := 1) rfl hon_ (hr5 _ _ (u8s_len256 (layB_len hxl him)) hhp_) (fun j_ hj_ => .inl hj_)
              replace H : Sat _ _ _ [_, _, _, _, _] := H
              rw [flat_setL (g := u8s) _ ok.szP hk] at H
              clear hB
              refine TF.nil (nx_then ?_)
              refine cw_seq ?_
              refine cw_seq ?_
              -- region 14 store.go:109
              refine cw_region (clf [.U, .U]) [0, 1] rfl (by kernel_rfl) (by decide) ?_
              refine TF.u (v := (.int .i64 _)) rfl rfl (pr_move rfl) ?_
              refine TF.u (v := (.bool _)) rfl rfl (pr_eql rfl rfl) ?_
              refine TF.nil (nx_then ?_)
              refine cw_cond _ rfl rfl (fun hq32 => ?_) (fun hq32 => ?_)
              ·
                have hp32 := dT hq32
                refine cw_seq ?_
                -- region 15 store.go:110
                refine cw_region (clf [.U]) [0] rfl (by kernel_rfl) (by decide) ?_
                refine TF.u (v := (.int .i64 _)) rfl rfl (pr_assign rfl) ?_
                refine TF.nil (nx_then ?_)
                refine cw_ret (rt_then (fin1 (v := (.int .i64 _)) Try.results13 rfl rfl ?_))
                have hok9 := sWrite_ok (s := s) ok (n := (j : Int)) (id := (k : Int)) (p := p) okp (mk : Int)
                have hW : sWrite s (j : Int) (k : Int) p (mk : Int) = _ := sWrite_yes h123 henc hbz (by rw [hxe]; omega)
                rw [if_pos (by omega), hxe, hen, arAt_eq ho29] at hW
                simp only [Int.toNat_natCast] at hW
                rw [hW] at hok9 ⊢
                refine ⟨rfl, Sat.toUpd (k := 0) (L := [_]) (Sat.ex ((some ⟨gb, 0, none⟩ : Option Addr), n_, c) (H.two (i := 1) (j := 1) rfl rfl).sep) rfl, hok9⟩
              ·
                have hp32 := dF hq32
                refine cw_skip (nx_then ?_)
                refine cw_seq ?_
                -- region 16 store.go:112
                refine cw_region (clf [.U, .U, .U, .U, .U, .X, .U, .U, .X]) [0, 1, 2, 3, 4, 5, 6, 7, 8] rfl (by kernel_rfl) (by decide) ?_
                refine TF.u (v := (.pointer (some ⟨_, _, none⟩))) rfl rfl (pr_move rfl) ?_
                refine TF.u (v := (.pointer (some ⟨_, _, none⟩))) rfl rfl (pr_move rfl) ?_
                refine TF.u (v := (.int .i64 _)) rfl rfl (pr_move rfl) ?_
                refine TF.u (v := (.pointer (some _))) rfl rfl (pr_nil rfl) ?_
                refine TF.u (v := (.pointer (some ⟨_, _, none⟩))) rfl rfl (pr_field (o' := _) Try.underlying62 rfl (Try.ty4.s) (by decide) rfl rfl) ?_
                refine TF.storeM (v := (.bool _)) (q := 2) (cs' := sbV (SB.mk (some ⟨gb, 0, none⟩) n_ c ((s.ar.set j (AR.mk (layB o29.img (imageS k p) mk) o29.out o29.id)).set j (AR.mk o30.img true o30.id)))) H rfl rfl rfl (wantF_none rfl) (Try.ty4.s) rfl rfl rfl (Nat.lt_of_lt_of_eq (sb_lt (j := j) (k := 256) (by omega) (by decide)) (sbV_len (x := (SB.mk (some ⟨gb, 0, none⟩) n_ c (s.ar.set j (AR.mk (layB o29.img (imageS k p) mk) o29.out o29.id)))) (ok.arOk.set j (a := AR.mk (layB o29.img (imageS k p) mk) o29.out o29.id) (layB_len (ok.arOk.at_ ho29) him))).symm) (sb_setOut true (ok.arOk.set j (a := AR.mk (layB o29.img (imageS k p) mk) o29.out o29.id) (layB_len (ok.arOk.at_ ho29) him)) ho30) ?_
                clear H
                intro w ho33 H
                replace H : Sat _ _ _ [_, _, _, _, _] := H
                obtain ⟨o34, ho34, heo34⟩ : ∃ o, ((s.ar.set j (AR.mk (layB o29.img (imageS k p) mk) o29.out o29.id)).set j (AR.mk o30.img true o30.id))[j]? = some o ∧ o = (AR.mk o30.img true o30.id) := ⟨_, by rw [List.getElem?_set, if_pos rfl, if_pos (by rw [((ok.arOk.set j (a := AR.mk (layB o29.img (imageS k p) mk) o29.out o29.id) (layB_len (ok.arOk.at_ ho29) him))).1]; omega)], rfl⟩
                refine TF.u (v := (.pointer (some _))) rfl rfl (pr_nil rfl) ?_
                refine TF.u (v := (.pointer (some ⟨_, _, none⟩))) rfl rfl (pr_field (o' := _) Try.underlying62 rfl (Try.ty3.s) (by decide) rfl rfl) ?_
                refine TF.storeM (v := (.int .i64 _)) (q := 2) (cs' := sbV (SB.mk (some ⟨gb, 0, none⟩) n_ c (((s.ar.set j (AR.mk (layB o29.img (imageS k p) mk) o29.out o29.id)).set j (AR.mk o30.img true o30.id)).set j (AR.mk o34.img o34.out (k : Int))))) H rfl rfl rfl (wantF_none rfl) (Try.ty3.s) rfl rfl rfl (Nat.lt_of_lt_of_eq (sb_lt (j := j) (k := 257) (by omega) (by decide)) (sbV_len (x := (SB.mk (some ⟨gb, 0, none⟩) n_ c ((s.ar.set j (AR.mk (layB o29.img (imageS k p) mk) o29.out o29.id)).set j (AR.mk o30.img true o30.id)))) ((ok.arOk.set j (a := AR.mk (layB o29.img (imageS k p) mk) o29.out o29.id) (layB_len (ok.arOk.at_ ho29) him)).set j (by rw [heo30]; exact (layB_len (ok.arOk.at_ ho29) him)))).symm) (sb_setId (k : Int) ((ok.arOk.set j (a := AR.mk (layB o29.img (imageS k p) mk) o29.out o29.id) (layB_len (ok.arOk.at_ ho29) him)).set j (by rw [heo30]; exact (layB_len (ok.arOk.at_ ho29) him))) ho34) ?_
                clear H
                intro w ho35 H
                replace H : Sat _ _ _ [_, _, _, _, _] := H
                obtain ⟨o36, ho36, heo36⟩ : ∃ o, (((s.ar.set j (AR.mk (layB o29.img (imageS k p) mk) o29.out o29.id)).set j (AR.mk o30.img true o30.id)).set j (AR.mk o34.img o34.out (k : Int)))[j]? = some o ∧ o = (AR.mk o34.img o34.out (k : Int)) := ⟨_, by rw [List.getElem?_set, if_pos rfl, if_pos (by rw [(((ok.arOk.set j (a := AR.mk (layB o29.img (imageS k p) mk) o29.out o29.id) (layB_len (ok.arOk.at_ ho29) him)).set j (by rw [heo30]; exact (layB_len (ok.arOk.at_ ho29) him)))).1]; omega)], rfl⟩
                refine TF.nil (nx_then ?_)
                refine cw_seq ?_
                -- region 17 store.go:113
                refine cw_region (clf [.U]) [0] rfl (by kernel_rfl) (by decide) ?_
                refine TF.u (v := (.int .i64 _)) rfl rfl (pr_assign rfl) ?_
                refine TF.nil (nx_then ?_)
                refine cw_ret (fin1 (v := (.int .i64 _)) Try.results13 rfl rfl ?_)
                have hok9 := sWrite_ok (s := s) ok (n := (j : Int)) (id := (k : Int)) (p := p) okp (mk : Int)
                have hW : sWrite s (j : Int) (k : Int) p (mk : Int) = _ := sWrite_yes h123 henc hbz (by rw [hxe]; omega)
                rw [if_neg (by omega), hxe, hen, arAt_eq ho29] at hW
                simp only [Int.toNat_natCast] at hW
                rw [hW] at hok9 ⊢
                subst heo36
                subst heo34
                subst heo30
                simp only [List.set_set] at H
                refine ⟨rfl, Sat.toUpd (k := 0) (L := [_]) (Sat.ex ((some ⟨gb, 0, none⟩ : Option Addr), n_, c) (H.two (i := 1) (j := 1) rfl rfl).sep) rfl, hok9⟩

theorem smend_ok (sb : Nat) (s : SS) (F : List Nat) (n m : Int) (w0 : World) (hF : (cStore 60 65 sb (s)).p w0 F) (ok : SOk s) (hn1 : -9223372036854775808 ≤ n) (hn2 : n ≤ 9223372036854775807) (hm1 : -9223372036854775808 ≤ m) (hm2 : m ≤ 9223372036854775807) :
    Calls Try.prog 16 #[.pointer (some ⟨sb, 0, none⟩), .int .i64 n, .int .i64 m] w0 fun e w => e = .returned (.int .i64 (sMend s n m).2) ∧ Upd (cStore 60 65 sb ((sMend s n m).1)) F w0 w ∧ SOk ((sMend s n m).1) := by
  refine enter (args := [.pointer (some ⟨sb, 0, none⟩), .int .i64 n, .int .i64 m]) Try.func16 rfl Try.ntmps16 rfl ?_
  have H := Sat.start1 hF
  have hpl2 := ok.pl2
  refine cw_seq ?_
  -- region 0 store.go:117
  refine cw_region (clf [.U]) [0] rfl (by kernel_rfl) (by decide) ?_
  refine TF.u (v := (.int .i64 _)) rfl rfl (pr_assign rfl) ?_
  refine TF.nil (nx_then ?_)
  refine cw_seq ?_
  refine cw_seq ?_
  -- region 1 store.go:118
  refine cw_region (clf [.U, .X, .U, .U, .U, .X, .U, .U, .U, .U, .U, .U, .U, .U, .U, .U]) [0, 1, 2, 3, 4, 5, 6, 7, 8, 9, 10, 11, 12, 13, 14, 15] rfl (by kernel_rfl) (by decide) ?_
  refine TF.u (v := (.pointer (some ⟨_, 0, none⟩))) rfl rfl (pr_move rfl) ?_
  obtain ⟨F2, hF2, hU2⟩ := H.focus (k := 0) rfl
  refine TF.call (args := [(.pointer (some ⟨_, 0, none⟩))]) Try.fn17 rfl rfl (wantF_none rfl) rfl (spages_ok _ _ _  _ hF2 ok ) ?_
  rintro e_ w ⟨rfl, hb1⟩
  refine ⟨_, rfl, ?_⟩
  replace H := H.below hb1
  refine TF.u (v := (.bool _)) rfl rfl (pr_eql rfl rfl) ?_
  refine TF.u (v := (.bool _)) rfl rfl (pr_move rfl) ?_
  refine TF.split (dj := 11) rfl (fun hq4 => by
      have hp4 := dT hq4
      exfalso
      have := ok.pl1; omega) ?_
  intro hq4
  have hp4 := dF hq4
  refine TF.ug (v := (.int .i64 _)) rfl rfl (wantF_yes rfl rfl rfl hq4) (pr_move rfl) ?_
  refine TF.call (args := [(.int .i64 _)]) Try.fn28 rfl rfl (wantF_yes rfl rfl rfl hq4) rfl (snode_ok _ _ (by omega) (by omega)) ?_
  rintro e_ w ⟨rfl, hb5⟩
  refine ⟨_, rfl, ?_⟩
  replace H := H.below hb5
  refine TF.ug (v := (.bool _)) rfl rfl (wantF_yes rfl rfl rfl hq4) (pr_not rfl) ?_
  refine TF.u (v := (.bool _)) rfl rfl (pr_pickF rfl hq4 rfl) ?_
  refine TF.u (v := (.bool _)) rfl rfl (pr_move rfl) ?_
  refine TF.split (dj := 16) rfl (fun hq7 => ?_) (fun hq7 => ?_)
  ·
    have hp7 := (nT hq7)
    refine TF.skip rfl (wantF_no rfl rfl rfl (bnF (nT hq7))) ?_
    refine TF.skip rfl (wantF_no rfl rfl rfl (bnF (nT hq7))) ?_
    refine TF.u (v := (.bool _)) rfl rfl (pr_pickT rfl (bnF (nT hq7)) rfl) ?_
    refine TF.u (v := (.bool _)) rfl rfl (pr_move rfl) ?_
    refine TF.skip rfl (wantF_no rfl rfl rfl rfl) ?_
    refine TF.skip rfl (wantF_no rfl rfl rfl rfl) ?_
    refine TF.u (v := (.bool _)) rfl rfl (pr_pickT rfl rfl rfl) ?_
    refine TF.nil (nx_then ?_)
    refine cw_condT (t := _) rfl rfl rfl ?_
    refine cw_seq ?_
    -- region 2 store.go:119
    refine cw_region (clf [.U]) [0] rfl (by kernel_rfl) (by decide) ?_
    refine TF.u (v := (.int .i64 _)) rfl rfl (pr_assign rfl) ?_
    refine TF.nil (nx_then ?_)
    refine cw_ret (rt_then (fin1 (v := (.int .i64 _)) Try.results16 rfl rfl ?_))
    rw [sMend_1 (by rintro ⟨h1_, h2_, h3_⟩; first | (simp_all; done) | omega)]
    have H9 := H.only1 (i := 0) rfl
    exact ⟨rfl, H9.toUpd (k := 0) rfl, ok⟩
  ·
    have hp7 := (nF hq7)
    refine TF.ug (v := (.int .i64 _)) rfl rfl (wantF_yes rfl rfl rfl (bnT (nF hq7))) (pr_move rfl) ?_
    refine TF.ug (v := (.bool _)) rfl rfl (wantF_yes rfl rfl rfl (bnT (nF hq7))) (pr_lss rfl rfl) ?_
    refine TF.u (v := (.bool _)) rfl rfl (pr_pickF rfl (bnT (nF hq7)) rfl) ?_
    refine TF.u (v := (.bool _)) rfl rfl (pr_move rfl) ?_
    refine TF.split (dj := 20) rfl (fun hq9 => ?_) (fun hq9 => ?_)
    ·
      have hp9 := dT hq9
      refine TF.skip rfl (wantF_no rfl rfl rfl hq9) ?_
      refine TF.skip rfl (wantF_no rfl rfl rfl hq9) ?_
      refine TF.u (v := (.bool _)) rfl rfl (pr_pickT rfl hq9 rfl) ?_
      refine TF.nil (nx_then ?_)
      refine cw_condT (t := _) rfl rfl rfl ?_
      refine cw_seq ?_
      -- region 2 store.go:119
      refine cw_region (clf [.U]) [0] rfl (by kernel_rfl) (by decide) ?_
      refine TF.u (v := (.int .i64 _)) rfl rfl (pr_assign rfl) ?_
      refine TF.nil (nx_then ?_)
      refine cw_ret (rt_then (fin1 (v := (.int .i64 _)) Try.results16 rfl rfl ?_))
      rw [sMend_1 (by rintro ⟨h1_, h2_, h3_⟩; first | (simp_all; done) | omega)]
      have H9 := H.only1 (i := 0) rfl
      exact ⟨rfl, H9.toUpd (k := 0) rfl, ok⟩
    ·
      have hp9 := dF hq9
      refine TF.ug (v := (.int .i64 _)) rfl rfl (wantF_yes rfl rfl rfl hq9) (pr_move rfl) ?_
      refine TF.ug (v := (.bool _)) rfl rfl (wantF_yes rfl rfl rfl hq9) (pr_gtr rfl rfl) ?_
      refine TF.u (v := (.bool _)) rfl rfl (pr_pickF rfl hq9 rfl) ?_
      refine TF.nil (nx_then ?_)
      refine cw_cond _ rfl rfl (fun hq11 => ?_) (fun hq11 => ?_)
      ·
        have hp11 := dT hq11
        refine cw_seq ?_
        -- region 2 store.go:119
        refine cw_region (clf [.U]) [0] rfl (by kernel_rfl) (by decide) ?_
        refine TF.u (v := (.int .i64 _)) rfl rfl (pr_assign rfl) ?_
        refine TF.nil (nx_then ?_)
        refine cw_ret (rt_then (fin1 (v := (.int .i64 _)) Try.results16 rfl rfl ?_))
        rw [sMend_1 (by rintro ⟨h1_, h2_, h3_⟩; first | (simp_all; done) | omega)]
        have H9 := H.only1 (i := 0) rfl
        exact ⟨rfl, H9.toUpd (k := 0) rfl, ok⟩
      ·
        have hp11 := dF hq11
        refine cw_skip (nx_then ?_)
        refine cw_seq ?_
        -- region 3 store.go:121
        refine cw_region (clf [.U, .U, .U, .U, .U, .U]) [0, 1, 2, 3, 4, 5] rfl (by kernel_rfl) (by decide) ?_
        have h123 : nodeP n = true ∧ 0 ≤ m ∧ m ≤ 3 := ⟨by assumption, by omega, by omega⟩
        obtain ⟨j, a_, rfl, hj, ha_, hae, ham⟩ := ok.ar_at h123.1
        obtain ⟨mk, rfl⟩ := Int.eq_ofNat_of_zero_le h123.2.1
        obtain ⟨_, _, hmk⟩ := h123
        have h123 : nodeP (j : Int) = true ∧ 0 ≤ (mk : Int) ∧ (mk : Int) ≤ 3 := ⟨by assumption, by omega, by omega⟩
        replace H := H.front 0 rfl
        obtain ⟨⟨A, n_, c⟩, H⟩ := H.unex
        replace H := H.unsep
        replace H : Sat F w0 _ (cOwn 60 256 A n_ c (s.pl.flatMap u8s) :: cBlk sb 65 (sbV (SB.mk A n_ c s.ar)) :: _) := H
        replace H : Sat _ _ _ [_, _] := H
        have hn_ : s.pl.length = n_ := row_len ok (H.rd (k := 0) rfl)
        refine TF.u (v := (.pointer (some ⟨_, 0, none⟩))) rfl rfl (pr_move rfl) ?_
        refine TF.u (v := (.int .i64 _)) rfl rfl (pr_move rfl) ?_
        refine TF.u (v := (.pointer (some _))) rfl rfl (pr_nil rfl) ?_
        refine TF.u (v := (.pointer (some ⟨_, 1, none⟩))) rfl rfl (pr_field (o' := 1) Try.underlying65 rfl (Try.sz63) (by decide) rfl rfl) ?_
        obtain ⟨o12, ho12⟩ : ∃ o, s.ar[j]? = some o := ⟨_, List.getElem?_eq_getElem (by rw [(ok.arOk).1]; omega)⟩
        obtain rfl : o12 = a_ := Option.some.inj (ho12.symm.trans ha_)
        refine TF.u (v := (.pointer (some ⟨_, _, none⟩))) rfl rfl (pr_idxA Try.underlying63 (Try.sz62) rfl rfl (by omega) (by omega)) ?_
        refine TF.u (v := (.pointer (some ⟨_, _, none⟩))) rfl rfl (pr_assign rfl) ?_
        refine TF.nil (nx_then ?_)
        refine cw_seq ?_
        refine cw_seq ?_
        -- region 4 store.go:122
        refine cw_drawS H Try.wide_ (clf [.U, .U, .U, .R, .U, .U, .U, .U, .R, .U, .U, .U, .R, .U, .R, .P, .P, .U]) [0, 1, 2, 3, 4, 5, 6, 7, 8, 9, 10, 11, 12, 13, 14, 15, 16, 17] (by kernel_rfl) (by kernel_rfl) ?_
        clear H
        intro w hbr H hB
        refine TF.u (v := (.pointer (some ⟨_, _, none⟩))) rfl rfl (pr_move rfl) ?_
        refine TF.u (v := (.pointer (some _))) rfl rfl (pr_nil rfl) ?_
        refine TF.u (v := (.pointer (some ⟨_, _, none⟩))) rfl rfl (pr_field (o' := _) Try.underlying62 rfl (Try.ty4.s) (by decide) rfl rfl) ?_
        refine TF.loadr (v := (.bool o12.out)) rfl rfl (wantF_none rfl) Try.underlying4 rfl rfl ((H.blk (k := 1) rfl).atB (sb_out ok.arOk ho12)) ?_
        refine TF.u (v := (.bool o12.out)) rfl rfl (pr_move rfl) ?_
        refine TF.split (dj := 33) rfl (fun hq15 => ?_) (fun hq15 => ?_)
        ·
          have hp15 := hq15
          refine TF.ug (v := (.pointer (some ⟨_, 0, none⟩))) rfl rfl (wantF_yes rfl rfl rfl hq15) (pr_move rfl) ?_
          refine TF.ug (v := (.pointer (some _))) rfl rfl (wantF_yes rfl rfl rfl hq15) (pr_nil rfl) ?_
          refine TF.ug (v := (.pointer (some ⟨_, 0, none⟩))) rfl rfl (wantF_yes rfl rfl rfl hq15) (pr_field (o' := 0) Try.underlying65 rfl (Try.ty57.s) (by decide) rfl rfl) ?_
          refine TF.loadr (v := (.slice A n_ c)) rfl rfl (wantF_yes rfl rfl rfl hq15) Try.underlying57 rfl rfl ((H.blk (k := 1) rfl).atB rfl) ?_
          refine TF.ug (v := (.pointer (some ⟨_, _, none⟩))) rfl rfl (wantF_yes rfl rfl rfl hq15) (pr_move rfl) ?_
          refine TF.ug (v := (.pointer (some _))) rfl rfl (wantF_yes rfl rfl rfl hq15) (pr_nil rfl) ?_
          refine TF.ug (v := (.pointer (some ⟨_, _, none⟩))) rfl rfl (wantF_yes rfl rfl rfl hq15) (pr_field (o' := _) Try.underlying62 rfl (Try.ty3.s) (by decide) rfl rfl) ?_
          refine TF.loadr (v := (.int .i64 o12.id)) rfl rfl (wantF_yes rfl rfl rfl hq15) Try.underlying3 rfl rfl ((H.blk (k := 1) rfl).atB (sb_id ok.arOk ho12)) ?_
          obtain ⟨x, hx, hxl, hxe, hi0, hi1, hk⟩ := ok.pl_id ham (by assumption)
          refine TF.idx (H.rd (k := 0) rfl) rfl rfl (wantF_yes rfl rfl rfl hq15) Try.underlying57 (Try.sz60) rfl rfl (by omega) (by omega) ?_
          intro p_ hc_
          replace hc_ : ∀ j u, (u8s x)[j]? = some u → _ := fun j u hu => hc_ j u (by have h_ := (List.getElem?_eq_some_iff.1 hu).1; rw [u8s_len, hxl] at h_; exact h_) ((flat_atL ok.szP hx (by have h_ := (List.getElem?_eq_some_iff.1 hu).1; rw [u8s_len, hxl] at h_; exact h_)).trans hu)
          refine TF.loadNr (cs := u8s x) rfl rfl (wantF_yes rfl rfl rfl hq15) (Try.sz60) rfl rfl (u8s_len256 hxl) (fun w_ hw_ j u hj => below_cell hw_ (hc_ j u hj)) ?_
          refine TF.callp (args := [(.agg ⟨u8s x⟩)]) Try.fn33 rfl rfl (wantF_yes rfl rfl rfl hq15) rfl (plbytes_ok x _ hxl) ?_
          rintro e_ w ⟨A16, n16, c16, rfl, hn16⟩
          refine ⟨_, rfl, fun x => Below w.heap.size w x, fun x hx => below_trans (below_trans hB hn16.below) hx, Below.refl _ _, ?_⟩
          replace hB := Below.refl w.heap.size w
          replace H := H.newS hn16
          refine TF.callp (args := [(.slice _ _ _)]) Try.fn35 rfl rfl (wantF_yes rfl rfl rfl hq15) rfl (ptorn_ok _ _ _ _ _ (H.rd (k := 0) rfl)) ?_
          rintro e_ w ⟨rfl, hb18⟩
          refine ⟨_, rfl, fun x => Below w.heap.size w x, fun x hx => below_trans (below_trans hB hb18) hx, Below.refl _ _, ?_⟩
          replace hB := Below.refl w.heap.size w
          replace H := H.below hb18
          refine TF.u (v := (.bool _)) rfl rfl (pr_pickT rfl hq15 rfl) ?_
          clear hB
          refine TF.nil (nx_then ?_)
          refine cw_cond _ rfl rfl (fun hq20 => ?_) (fun hq20 => ?_)
          ·
            have hp20 := hq20
            refine cw_seq ?_
            -- region 5 store.go:123
            refine cw_drawS H Try.wide_ (clf [.U, .U, .U, .R, .U, .U, .U, .R, .U, .U, .U, .U, .R, .U, .X]) [0, 1, 2, 3, 4, 5, 6, 7, 8, 9, 10, 11, 12, 13, 14] (by kernel_rfl) (by kernel_rfl) ?_
            clear H
            intro w hbr H hB
            obtain ⟨gb, rfl⟩ := H.ownSome (k := 1) rfl (by omega)
            refine TF.u (v := (.pointer (some ⟨_, 0, none⟩))) rfl rfl (pr_move rfl) ?_
            refine TF.u (v := (.pointer (some _))) rfl rfl (pr_nil rfl) ?_
            refine TF.u (v := (.pointer (some ⟨_, 0, none⟩))) rfl rfl (pr_field (o' := 0) Try.underlying65 rfl (Try.ty57.s) (by decide) rfl rfl) ?_
            refine TF.loadr (v := (.slice (some ⟨gb, 0, none⟩) n_ c)) rfl rfl (wantF_none rfl) Try.underlying57 rfl rfl ((H.blk (k := 2) rfl).atB rfl) ?_
            refine TF.u (v := (.pointer (some ⟨_, _, none⟩))) rfl rfl (pr_move rfl) ?_
            refine TF.u (v := (.pointer (some _))) rfl rfl (pr_nil rfl) ?_
            refine TF.u (v := (.pointer (some ⟨_, _, none⟩))) rfl rfl (pr_field (o' := _) Try.underlying62 rfl (Try.ty3.s) (by decide) rfl rfl) ?_
            refine TF.loadr (v := (.int .i64 o12.id)) rfl rfl (wantF_none rfl) Try.underlying3 rfl rfl ((H.blk (k := 2) rfl).atB (sb_id ok.arOk ho12)) ?_
            refine TF.u (v := (.pointer (some ⟨gb, o12.id.toNat * 256, none⟩))) rfl rfl (pr_idxO (b := gb) (o' := o12.id.toNat * 256) Try.underlying57 (Try.sz60) rfl rfl (by omega) (by omega) (by simp)) ?_
            skip
            refine TF.u (v := (.pointer (some ⟨_, _, none⟩))) rfl rfl (pr_move rfl) ?_
            refine TF.u (v := (.pointer (some _))) rfl rfl (pr_nil rfl) ?_
            refine TF.u (v := (.pointer (some ⟨_, _, none⟩))) rfl rfl (pr_field (o' := _) Try.underlying62 rfl (Try.sz60) (by decide) rfl rfl) ?_
            refine TF.loadEr (cs' := u8s o12.img) rfl rfl (wantF_none rfl) (Try.sz60) rfl rfl (H.blk (k := 2) rfl) (u8s_len256 (ok.arOk.at_ ho12)) (sb_img ok.arOk ho12) (fun _ h => h) ?_
            refine TF.u (v := (.int .i64 _)) rfl rfl (pr_move rfl) ?_
            obtain ⟨cs_, fz_, hr1, hr2, hr3, hr4, hr5⟩ := (H.own_ (k := 1) rfl).raw (o := o12.id.toNat * 256) (k := 256) (by omega)
            refine TF.call (args := [(.pointer (some ⟨_, _, none⟩)), (.agg ⟨u8s o12.img⟩), (.int .i64 _)]) Try.fn34 rfl rfl (wantF_none rfl) rfl (lay_ok gb (o12.id.toNat * 256) _ fz_ cs_ x o12.img mk _ hr1 hr2 hr3 (hr4.trans (flat_dropL ok.szP hx)) hxl (ok.arOk.at_ ho12) (by omega)) ?_
            rintro e_ w ⟨rfl, hon_, hhp_⟩
            refine ⟨_, rfl, ?_⟩
            replace H := H.setOwn (k := 1) rfl hon_ (hr5 _ _ (u8s_len256 (layB_len hxl (ok.arOk.at_ ho12))) hhp_) (fun j_ hj_ => .inl hj_)
            replace H : Sat _ _ _ [_, _, _] := H
            rw [flat_setL (g := u8s) _ ok.szP hk] at H
            clear hB
            refine TF.nil (nx_then ?_)
            refine cw_seq ?_
            -- region 6 store.go:124
            refine cw_region (clf [.U, .U]) [0, 1] rfl (by kernel_rfl) (by decide) ?_
            refine TF.u (v := (.int .i64 _)) rfl rfl (pr_move rfl) ?_
            refine TF.u (v := (.bool _)) rfl rfl (pr_neq rfl rfl) ?_
            refine TF.nil (nx_then ?_)
            refine cw_cond _ rfl rfl (fun hq22 => ?_) (fun hq22 => ?_)
            ·
              have hp22 := dF (nT hq22)
              refine cw_seq ?_
              -- region 7 store.go:125
              refine cw_region (clf [.U]) [0] rfl (by kernel_rfl) (by decide) ?_
              refine TF.u (v := (.int .i64 _)) rfl rfl (pr_assign rfl) ?_
              refine TF.nil (nx_then ?_)
              refine cw_ret (rt_then (fin1 (v := (.int .i64 _)) Try.results16 rfl rfl ?_))
              have hok9 := sMend_ok (s := s) ok (j : Int) (mk : Int)
              have hW : sMend s (j : Int) (mk : Int) = _ := sMend_y h123 hae (by assumption) hxe (by assumption)
              rw [if_pos (by omega)] at hW
              simp only [Int.toNat_natCast] at hW
              rw [hW] at hok9 ⊢
              refine ⟨rfl, Sat.toUpd (k := 0) (L := [_]) (Sat.ex (((some ⟨gb, 0, none⟩) : Option Addr), n_, c) (H.two (i := 1) (j := 1) rfl rfl).sep) rfl, hok9⟩
            ·
              have hp22 := dT (nF hq22)
              refine cw_skip (nx_then ?_)
              refine cw_seq ?_
              -- region 8 store.go:128
              refine cw_region (clf [.U, .U, .U, .X]) [0, 1, 2, 3] rfl (by kernel_rfl) (by decide) ?_
              refine TF.u (v := (.pointer (some ⟨_, _, none⟩))) rfl rfl (pr_move rfl) ?_
              refine TF.u (v := (.pointer (some _))) rfl rfl (pr_nil rfl) ?_
              refine TF.u (v := (.pointer (some ⟨_, _, none⟩))) rfl rfl (pr_field (o' := _) Try.underlying62 rfl (Try.ty4.s) (by decide) rfl rfl) ?_
              refine TF.storeM (v := (.bool _)) (q := 2) (cs' := sbV (SB.mk (some ⟨gb, 0, none⟩) n_ c (s.ar.set j (AR.mk o12.img false o12.id)))) H rfl rfl rfl (wantF_none rfl) (Try.ty4.s) rfl rfl rfl (Nat.lt_of_lt_of_eq (sb_lt (j := j) (k := 256) (by omega) (by decide)) (sbV_len (x := (SB.mk (some ⟨gb, 0, none⟩) n_ c s.ar)) ok.arOk).symm) (sb_setOut false ok.arOk ho12) ?_
              clear H
              intro w ho23 H
              replace H : Sat _ _ _ [_, _, _] := H
              obtain ⟨o24, ho24, heo24⟩ : ∃ o, (s.ar.set j (AR.mk o12.img false o12.id))[j]? = some o ∧ o = (AR.mk o12.img false o12.id) := ⟨_, by rw [List.getElem?_set, if_pos rfl, if_pos (by rw [(ok.arOk).1]; omega)], rfl⟩
              refine TF.nil (nx_then ?_)
              refine cw_seq ?_
              -- region 9 store.go:129
              refine cw_region (clf [.U]) [0] rfl (by kernel_rfl) (by decide) ?_
              refine TF.u (v := (.int .i64 _)) rfl rfl (pr_assign rfl) ?_
              refine TF.nil (nx_then ?_)
              refine cw_ret (fin1 (v := (.int .i64 _)) Try.results16 rfl rfl ?_)
              have hok9 := sMend_ok (s := s) ok (j : Int) (mk : Int)
              have hW : sMend s (j : Int) (mk : Int) = _ := sMend_y h123 hae (by assumption) hxe (by assumption)
              rw [if_neg (by omega)] at hW
              simp only [Int.toNat_natCast] at hW
              rw [hW] at hok9 ⊢
              refine ⟨rfl, Sat.toUpd (k := 0) (L := [_]) (Sat.ex (((some ⟨gb, 0, none⟩) : Option Addr), n_, c) (H.two (i := 1) (j := 1) rfl rfl).sep) rfl, hok9⟩
          ·
            have hp20 := hq20
            refine cw_skip (nx_then ?_)
            refine cw_seq ?_
            -- region 8 store.go:128
            refine cw_region (clf [.U, .U, .U, .X]) [0, 1, 2, 3] rfl (by kernel_rfl) (by decide) ?_
            refine TF.u (v := (.pointer (some ⟨_, _, none⟩))) rfl rfl (pr_move rfl) ?_
            refine TF.u (v := (.pointer (some _))) rfl rfl (pr_nil rfl) ?_
            refine TF.u (v := (.pointer (some ⟨_, _, none⟩))) rfl rfl (pr_field (o' := _) Try.underlying62 rfl (Try.ty4.s) (by decide) rfl rfl) ?_
            refine TF.storeM (v := (.bool _)) (q := 2) (cs' := sbV (SB.mk A n_ c (s.ar.set j (AR.mk o12.img false o12.id)))) H rfl rfl rfl (wantF_none rfl) (Try.ty4.s) rfl rfl rfl (Nat.lt_of_lt_of_eq (sb_lt (j := j) (k := 256) (by omega) (by decide)) (sbV_len (x := (SB.mk A n_ c s.ar)) ok.arOk).symm) (sb_setOut false ok.arOk ho12) ?_
            clear H
            intro w ho25 H
            replace H : Sat _ _ _ [_, _, _] := H
            obtain ⟨o26, ho26, heo26⟩ : ∃ o, (s.ar.set j (AR.mk o12.img false o12.id))[j]? = some o ∧ o = (AR.mk o12.img false o12.id) := ⟨_, by rw [List.getElem?_set, if_pos rfl, if_pos (by rw [(ok.arOk).1]; omega)], rfl⟩
            refine TF.nil (nx_then ?_)
            refine cw_seq ?_
            -- region 9 store.go:129
            refine cw_region (clf [.U]) [0] rfl (by kernel_rfl) (by decide) ?_
            refine TF.u (v := (.int .i64 _)) rfl rfl (pr_assign rfl) ?_
            refine TF.nil (nx_then ?_)
            refine cw_ret (fin1 (v := (.int .i64 _)) Try.results16 rfl rfl ?_)
            have hok9 := sMend_ok (s := s) ok (j : Int) (mk : Int)
            have hW : sMend s (j : Int) (mk : Int) = _ := sMend_n h123 hae (by rintro ⟨h1_, h2_⟩; rw [hxe] at h2_; simp_all)
            simp only [Int.toNat_natCast] at hW
            rw [hW] at hok9 ⊢
            refine ⟨rfl, Sat.toUpd (k := 0) (L := [_]) (Sat.ex ((A : Option Addr), n_, c) (H.two (i := 1) (j := 1) rfl rfl).sep) rfl, hok9⟩
        ·
          have hp15 := hq15
          refine TF.skip rfl (wantF_no rfl rfl rfl hq15) ?_
          refine TF.skip rfl (wantF_no rfl rfl rfl hq15) ?_
          refine TF.skip rfl (wantF_no rfl rfl rfl hq15) ?_
          refine TF.skip rfl (wantF_no rfl rfl rfl hq15) ?_
          refine TF.skip rfl (wantF_no rfl rfl rfl hq15) ?_
          refine TF.skip rfl (wantF_no rfl rfl rfl hq15) ?_
          refine TF.skip rfl (wantF_no rfl rfl rfl hq15) ?_
          refine TF.skip rfl (wantF_no rfl rfl rfl hq15) ?_
          refine TF.skip rfl (wantF_no rfl rfl rfl hq15) ?_
          refine TF.skip rfl (wantF_no rfl rfl rfl hq15) ?_
          refine TF.skip rfl (wantF_no rfl rfl rfl hq15) ?_
          refine TF.skip rfl (wantF_no rfl rfl rfl hq15) ?_
          refine TF.u (v := (.bool _)) rfl rfl (pr_pickF rfl hq15 rfl) ?_
          clear hB
          refine TF.nil (nx_then ?_)
          refine cw_condF (t := _) rfl rfl rfl ?_
          refine cw_skip (nx_then ?_)
          refine cw_seq ?_
          -- region 8 store.go:128
          refine cw_region (clf [.U, .U, .U, .X]) [0, 1, 2, 3] rfl (by kernel_rfl) (by decide) ?_
          refine TF.u (v := (.pointer (some ⟨_, _, none⟩))) rfl rfl (pr_move rfl) ?_
          refine TF.u (v := (.pointer (some _))) rfl rfl (pr_nil rfl) ?_
          refine TF.u (v := (.pointer (some ⟨_, _, none⟩))) rfl rfl (pr_field (o' := _) Try.underlying62 rfl (Try.ty4.s) (by decide) rfl rfl) ?_
          refine TF.storeM (v := (.bool _)) (q := 1) (cs' := sbV (SB.mk A n_ c (s.ar.set j (AR.mk o12.img false o12.id)))) H rfl rfl rfl (wantF_none rfl) (Try.ty4.s) rfl rfl rfl (Nat.lt_of_lt_of_eq (sb_lt (j := j) (k := 256) (by omega) (by decide)) (sbV_len (x := (SB.mk A n_ c s.ar)) ok.arOk).symm) (sb_setOut false ok.arOk ho12) ?_
          clear H
          intro w ho27 H
          replace H : Sat _ _ _ [_, _] := H
          obtain ⟨o28, ho28, heo28⟩ : ∃ o, (s.ar.set j (AR.mk o12.img false o12.id))[j]? = some o ∧ o = (AR.mk o12.img false o12.id) := ⟨_, by rw [List.getElem?_set, if_pos rfl, if_pos (by rw [(ok.arOk).1]; omega)], rfl⟩
          refine TF.nil (nx_then ?_)
          refine cw_seq ?_
          -- region 9 store.go:129
          refine cw_region (clf [.U]) [0] rfl (by kernel_rfl) (by decide) ?_
          refine TF.u (v := (.int .i64 _)) rfl rfl (pr_assign rfl) ?_
          refine TF.nil (nx_then ?_)
          refine cw_ret (fin1 (v := (.int .i64 _)) Try.results16 rfl rfl ?_)
          have hok9 := sMend_ok (s := s) ok (j : Int) (mk : Int)
          have hW : sMend s (j : Int) (mk : Int) = _ := sMend_n h123 hae (by rintro ⟨h1_, h2_⟩; simp_all)
          simp only [Int.toNat_natCast] at hW
          rw [hW] at hok9 ⊢
          refine ⟨rfl, Sat.toUpd (k := 0) (L := [_]) (Sat.ex ((A : Option Addr), n_, c) (H.two (i := 0) (j := 0) rfl rfl).sep) rfl, hok9⟩
end Go.Proofs.Ytpncaeadbfdflaa
