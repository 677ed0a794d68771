/- What the functions of this seat compute, each walked once (no condition but those in each statement): quaysideref10.lay, quaysideref10.Store).there, quaysideref10.Store).Read, quaysideref10.New, quaysideref10.Store).Write, quaysideref10.Store).Mend -/
import Derived.Test.YtpncaeadbfdflaaCore7
import Derived.Test.YtpncaeadbfdflaaMath
import Derived.Test.YtpncaeadbfdflaaMath1
import Derived.Test.YtpncaeadbfdflaaCrc
import Derived.Test.YtpncaeadbfdflaaCrc2
import Derived.Test.YtpncaeadbfdflaaCrc3
import Derived.Test.YtpncaeadbfdflaaCore8
import Derived.Test.YtpncaeadbfdflaaCore9
import Derived.Test.YtpncaeadbfdflaaCore10
import Derived.Test.YtpncaeadbfdflaaCore11
import Derived.Test.YtpncaeadbfdflaaPage
import Derived.Test.YtpncaeadbfdflaaPageV
import Derived.Test.YtpncaeadbfdflaaArgs
import Derived.Test.YtpncaeadbfdflaaPage2
import Derived.Test.YtpncaeadbfdflaaArgsP
import Derived.Test.YtpncaeadbfdflaaCore12
import Derived.Test.YtpncaeadbfdflaaPage3
import Derived.Test.YtpncaeadbfdflaaCore13
import Derived.Test.YtpncaeadbfdflaaCore14
import Derived.Test.YtpncaeadbfdflaaStore
import Derived.Test.YtpncaeadbfdflaaStoreV
import Derived.Test.YtpncaeadbfdflaaStoreR
import Derived.Test.YtpncaeadbfdflaaStoreS
import Derived.Test.YtpncaeadbfdflaaStoreL
import Derived.Test.YtpncaeadbfdflaaProg
import Derived.KernelRfl
import Derived.Test.YtpncaeadbfdflaaFns3
set_option linter.unusedSimpArgs false
set_option linter.unusedVariables false
set_option maxRecDepth 10000
namespace Go.Proofs.Ytpncaeadbfdflaa
open Go.Q Go.RowKit Go.Proofs
theorem Try.ty87 : Ty Try.prog 87 (.slice 9) (.slice none 0 0) 1 24 := ty_mk (by kernel_rfl) (by kernel_rfl)
theorem Try.ty89 : Ty Try.prog 89 (.struct (match Try.prog.underlying 89 with | some (.struct fs) => fs | _ => #[])) (.agg ⟨[(.string ⟨⟨[]⟩⟩), (.bool false), (.int .i64 0)]⟩) 3 32 := ty_mk (by kernel_rfl) (by kernel_rfl)
theorem Try.ty90 : Ty Try.prog 90 (.array 8 89) (.agg ⟨[(.string ⟨⟨[]⟩⟩), (.bool false), (.int .i64 0), (.string ⟨⟨[]⟩⟩), (.bool false), (.int .i64 0), (.string ⟨⟨[]⟩⟩), (.bool false), (.int .i64 0), (.string ⟨⟨[]⟩⟩), (.bool false), (.int .i64 0), (.string ⟨⟨[]⟩⟩), (.bool false), (.int .i64 0), (.string ⟨⟨[]⟩⟩), (.bool false), (.int .i64 0), (.string ⟨⟨[]⟩⟩), (.bool false), (.int .i64 0), (.string ⟨⟨[]⟩⟩), (.bool false), (.int .i64 0)]⟩) 24 256 := ty_mk (by kernel_rfl) (by kernel_rfl)
theorem Try.bld89 : Bld Try.prog 89 [(.string ⟨⟨[]⟩⟩), (.bool false), (.int .i64 0)] [(0, 1), (1, 1), (2, 1)] := bld_mk (by kernel_rfl)
theorem Try.bld92 : Bld Try.prog 92 [(.slice none 0 0), (.string ⟨⟨[]⟩⟩), (.bool false), (.int .i64 0), (.string ⟨⟨[]⟩⟩), (.bool false), (.int .i64 0), (.string ⟨⟨[]⟩⟩), (.bool false), (.int .i64 0), (.string ⟨⟨[]⟩⟩), (.bool false), (.int .i64 0), (.string ⟨⟨[]⟩⟩), (.bool false), (.int .i64 0), (.string ⟨⟨[]⟩⟩), (.bool false), (.int .i64 0), (.string ⟨⟨[]⟩⟩), (.bool false), (.int .i64 0), (.string ⟨⟨[]⟩⟩), (.bool false), (.int .i64 0)] [(0, 1), (1, 24)] := bld_mk (by kernel_rfl)
theorem Try.fn19 : Fnc Try.prog 19 Try.f19 := ⟨Try.func19, by kernel_rfl, by kernel_rfl⟩
theorem Try.fn48 : Fnc Try.prog 48 Try.f48 := ⟨Try.func48, by kernel_rfl, by kernel_rfl⟩
theorem Try.fn49 : Fnc Try.prog 49 Try.f49 := ⟨Try.func49, by kernel_rfl, by kernel_rfl⟩
theorem Try.fn50 : Fnc Try.prog 50 Try.f50 := ⟨Try.func50, by kernel_rfl, by kernel_rfl⟩
theorem Try.fn51 : Fnc Try.prog 51 Try.f51 := ⟨Try.func51, by kernel_rfl, by kernel_rfl⟩
theorem Try.fn53 : Fnc Try.prog 53 Try.f53 := ⟨Try.func53, by kernel_rfl, by kernel_rfl⟩
theorem rlay_ok (x img : List UInt8) (bits : Nat) (w0 : World) (hx : x.length = 256) (hi : img.length = 256) (hb : bits ≤ 15) :
    Calls Try.prog 51 #[T x, T img, .int .i64 (bits : Int)] w0 fun e w => e = .returned (T (layB x img bits)) ∧ Below w0.heap.size w0 w := by
  refine enter (args := [T x, T img, .int .i64 (bits : Int)]) Try.func51 rfl Try.ntmps51 rfl ?_
  have H := Sat.start w0
  refine cw_seq ?_
  -- region 0 ref.go:32
  refine cw_region (clf [.U]) [0] rfl (by kernel_rfl) (by decide) ?_
  refine TF.u (v := (T _)) rfl rfl (pr_assign rfl) ?_
  refine TF.nil (nx_then ?_)
  refine cw_seq ?_
  -- region 1 ref.go:33
  refine cw_drawS H Try.wide_ (clf [.U, .U, .U, .U, .U, .U]) [0, 1, 2, 3, 4, 5] (by kernel_rfl) (by kernel_rfl) ?_
  clear H
  intro w hbr H hB
  refine TF.u (v := (T _)) rfl rfl (pr_move rfl) ?_
  refine TF.u (v := (T _)) rfl rfl (pr_sslice (l := 0) (h := 128) Try.underlying9 rfl (.inl ⟨rfl, rfl⟩) (.inr ⟨_, _, rfl, rfl⟩) (by omega) (by omega)) ?_
  refine TF.u (v := (T _)) rfl rfl (pr_move rfl) ?_
  refine TF.u (v := (T _)) rfl rfl (pr_sslice (l := 128) (h := x.length) Try.underlying9 rfl (.inr ⟨_, _, rfl, rfl⟩) (.inl ⟨rfl, rfl⟩) (by omega) (by omega)) ?_
  refine TF.u (v := (T _)) rfl rfl (pr_assign rfl) ?_
  refine TF.u (v := (T _)) rfl rfl (pr_assign rfl) ?_
  clear hB
  refine TF.nil (nx_then ?_)
  refine cw_seq ?_
  refine cw_seq ?_
  -- region 2 ref.go:34
  refine cw_region (clf [.U, .U, .U]) [0, 1, 2] rfl (by kernel_rfl) (by decide) ?_
  refine TF.u (v := (.int .i64 _)) rfl rfl (pr_move rfl) ?_
  refine TF.u (v := (.int .i64 _)) rfl rfl (pr_rem rfl rfl (by omega) (show _ = ((bits % 2 : Nat) : Int) from rfl)) ?_
  refine TF.u (v := (.bool _)) rfl rfl (pr_eql rfl rfl) ?_
  refine TF.nil (nx_then ?_)
  refine cw_cond _ rfl rfl (fun hq2 => ?_) (fun hq2 => ?_)
  ·
    have hp2 := dT hq2
    -- region 3 ref.go:35
    refine cw_region (clf [.U, .U, .U]) [0, 1, 2] rfl (by kernel_rfl) (by decide) ?_
    refine TF.u (v := (T _)) rfl rfl (pr_move rfl) ?_
    refine TF.u (v := (T _)) rfl rfl (pr_sslice (l := 0) (h := 128) Try.underlying9 rfl (.inl ⟨rfl, rfl⟩) (.inr ⟨_, _, rfl, rfl⟩) (by omega) (by omega)) ?_
    refine TF.u (v := (T _)) rfl rfl (pr_assign rfl) ?_
    refine TF.nil (nx_then ?_)
    refine cw_seq ?_
    refine cw_seq ?_
    -- region 4 ref.go:37
    refine cw_region (clf [.U, .U, .U, .U]) [0, 1, 2, 3] rfl (by kernel_rfl) (by decide) ?_
    refine TF.u (v := (.int .i64 _)) rfl rfl (pr_move rfl) ?_
    refine TF.u (v := (.int .i64 _)) rfl rfl (pr_quo rfl rfl (by omega) (show _ = ((bits / 2 : Nat) : Int) from IntWalk.i64_in _ (by have : ((bits : Int).tdiv 2) = ((bits / 2 : Nat) : Int) := rfl; omega))) ?_
    refine TF.u (v := (.int .i64 _)) rfl rfl (pr_rem rfl rfl (by omega) (show _ = ((bits / 2 % 2 : Nat) : Int) from rfl)) ?_
    refine TF.u (v := (.bool _)) rfl rfl (pr_eql rfl rfl) ?_
    refine TF.nil (nx_then ?_)
    refine cw_cond _ rfl rfl (fun hq4 => ?_) (fun hq4 => ?_)
    ·
      have hp4 := dT hq4
      -- region 5 ref.go:38
      refine cw_region (clf [.U, .U, .U]) [0, 1, 2] rfl (by kernel_rfl) (by decide) ?_
      refine TF.u (v := (T _)) rfl rfl (pr_move rfl) ?_
      refine TF.u (v := (T _)) rfl rfl (pr_sslice (l := 128) (h := img.length) Try.underlying9 rfl (.inr ⟨_, _, rfl, rfl⟩) (.inl ⟨rfl, rfl⟩) (by omega) (by omega)) ?_
      refine TF.u (v := (T _)) rfl rfl (pr_assign rfl) ?_
      refine TF.nil (nx_then ?_)
      refine cw_seq ?_
      -- region 6 ref.go:40
      refine cw_region (clf [.U, .U, .U, .U]) [0, 1, 2, 3] rfl (by kernel_rfl) (by decide) ?_
      refine TF.u (v := (T _)) rfl rfl (pr_move rfl) ?_
      refine TF.u (v := (T _)) rfl rfl (pr_move rfl) ?_
      refine TF.u (v := (T _)) rfl rfl (pr_sadd rfl rfl (by simp only [List.length_drop, List.length_take]; omega)) ?_
      refine TF.u (v := (T _)) rfl rfl (pr_assign rfl) ?_
      refine TF.nil (nx_then ?_)
      refine cw_ret (fin1 (v := (T _)) Try.results51 rfl rfl ?_)
      rw [show _ ++ _ = layB x img bits from lay_str hx (by first | (rw [if_pos (by omega)]; simp; done) | (rw [if_neg (by omega)]; simp; done)) (by first | (rw [if_pos (by omega)]; simp; done) | (rw [if_neg (by omega)]; simp; done))]
      exact ⟨rfl, H.base⟩
    ·
      have hp4 := dF hq4
      refine cw_skip (nx_then ?_)
      refine cw_seq ?_
      -- region 6 ref.go:40
      refine cw_region (clf [.U, .U, .U, .U]) [0, 1, 2, 3] rfl (by kernel_rfl) (by decide) ?_
      refine TF.u (v := (T _)) rfl rfl (pr_move rfl) ?_
      refine TF.u (v := (T _)) rfl rfl (pr_move rfl) ?_
      refine TF.u (v := (T _)) rfl rfl (pr_sadd rfl rfl (by simp only [List.length_drop, List.length_take]; omega)) ?_
      refine TF.u (v := (T _)) rfl rfl (pr_assign rfl) ?_
      refine TF.nil (nx_then ?_)
      refine cw_ret (fin1 (v := (T _)) Try.results51 rfl rfl ?_)
      rw [show _ ++ _ = layB x img bits from lay_str hx (by first | (rw [if_pos (by omega)]; simp; done) | (rw [if_neg (by omega)]; simp; done)) (by first | (rw [if_pos (by omega)]; simp; done) | (rw [if_neg (by omega)]; simp; done))]
      exact ⟨rfl, H.base⟩
  ·
    have hp2 := dF hq2
    refine cw_skip (nx_then ?_)
    refine cw_seq ?_
    refine cw_seq ?_
    -- region 4 ref.go:37
    refine cw_region (clf [.U, .U, .U, .U]) [0, 1, 2, 3] rfl (by kernel_rfl) (by decide) ?_
    refine TF.u (v := (.int .i64 _)) rfl rfl (pr_move rfl) ?_
    refine TF.u (v := (.int .i64 _)) rfl rfl (pr_quo rfl rfl (by omega) (show _ = ((bits / 2 : Nat) : Int) from IntWalk.i64_in _ (by have : ((bits : Int).tdiv 2) = ((bits / 2 : Nat) : Int) := rfl; omega))) ?_
    refine TF.u (v := (.int .i64 _)) rfl rfl (pr_rem rfl rfl (by omega) (show _ = ((bits / 2 % 2 : Nat) : Int) from rfl)) ?_
    refine TF.u (v := (.bool _)) rfl rfl (pr_eql rfl rfl) ?_
    refine TF.nil (nx_then ?_)
    refine cw_cond _ rfl rfl (fun hq6 => ?_) (fun hq6 => ?_)
    ·
      have hp6 := dT hq6
      -- region 5 ref.go:38
      refine cw_region (clf [.U, .U, .U]) [0, 1, 2] rfl (by kernel_rfl) (by decide) ?_
      refine TF.u (v := (T _)) rfl rfl (pr_move rfl) ?_
      refine TF.u (v := (T _)) rfl rfl (pr_sslice (l := 128) (h := img.length) Try.underlying9 rfl (.inr ⟨_, _, rfl, rfl⟩) (.inl ⟨rfl, rfl⟩) (by omega) (by omega)) ?_
      refine TF.u (v := (T _)) rfl rfl (pr_assign rfl) ?_
      refine TF.nil (nx_then ?_)
      refine cw_seq ?_
      -- region 6 ref.go:40
      refine cw_region (clf [.U, .U, .U, .U]) [0, 1, 2, 3] rfl (by kernel_rfl) (by decide) ?_
      refine TF.u (v := (T _)) rfl rfl (pr_move rfl) ?_
      refine TF.u (v := (T _)) rfl rfl (pr_move rfl) ?_
      refine TF.u (v := (T _)) rfl rfl (pr_sadd rfl rfl (by simp only [List.length_drop, List.length_take]; omega)) ?_
      refine TF.u (v := (T _)) rfl rfl (pr_assign rfl) ?_
      refine TF.nil (nx_then ?_)
      refine cw_ret (fin1 (v := (T _)) Try.results51 rfl rfl ?_)
      rw [show _ ++ _ = layB x img bits from lay_str hx (by first | (rw [if_pos (by omega)]; simp; done) | (rw [if_neg (by omega)]; simp; done)) (by first | (rw [if_pos (by omega)]; simp; done) | (rw [if_neg (by omega)]; simp; done))]
      exact ⟨rfl, H.base⟩
    ·
      have hp6 := dF hq6
      refine cw_skip (nx_then ?_)
      refine cw_seq ?_
      -- region 6 ref.go:40
      refine cw_region (clf [.U, .U, .U, .U]) [0, 1, 2, 3] rfl (by kernel_rfl) (by decide) ?_
      refine TF.u (v := (T _)) rfl rfl (pr_move rfl) ?_
      refine TF.u (v := (T _)) rfl rfl (pr_move rfl) ?_
      refine TF.u (v := (T _)) rfl rfl (pr_sadd rfl rfl (by simp only [List.length_drop, List.length_take]; omega)) ?_
      refine TF.u (v := (T _)) rfl rfl (pr_assign rfl) ?_
      refine TF.nil (nx_then ?_)
      refine cw_ret (fin1 (v := (T _)) Try.results51 rfl rfl ?_)
      rw [show _ ++ _ = layB x img bits from lay_str hx (by first | (rw [if_pos (by omega)]; simp; done) | (rw [if_neg (by omega)]; simp; done)) (by first | (rw [if_pos (by omega)]; simp; done) | (rw [if_neg (by omega)]; simp; done))]
      exact ⟨rfl, H.base⟩

theorem rthere_ok (rb : Nat) (s : SS) (F : List Nat) (id : Int) (w0 : World) (hF : (cRStore 9 92 rb (s)).p w0 F) (ok : ROk s) (h1 : -9223372036854775808 ≤ id) (h2 : id ≤ 9223372036854775807) :
    Calls Try.prog 49 #[.pointer (some ⟨rb, 0, none⟩), .int .i64 id] w0 fun e w => e = .returned (.bool (thereP s id)) ∧ Below w0.heap.size w0 w := by
  refine enter (args := [.pointer (some ⟨rb, 0, none⟩), .int .i64 id]) Try.func49 rfl Try.ntmps49 rfl ?_
  have H := Sat.start w0
  obtain ⟨A, n_, c, hblk, hrow⟩ := cRStore_rd hF
  have hn_ : s.pl.length = n_ := rrow_len hrow
  obtain ⟨hk1, hk2, hk3, hk4, hk5⟩ := (show ROk s from ok)
  refine cw_seq ?_
  -- region 0 ref.go:46
  refine cw_region (clf [.U]) [0] rfl (by kernel_rfl) (by decide) ?_
  refine TF.u (v := (.bool _)) rfl rfl (pr_assign rfl) ?_
  refine TF.nil (nx_then ?_)
  refine cw_seq ?_
  -- region 1 ref.go:46
  refine cw_region (clf [.U, .U, .U, .U, .U, .U, .U, .X, .U, .U, .U, .U]) [0, 1, 2, 3, 4, 5, 6, 7, 8, 9, 10, 11] rfl (by kernel_rfl) (by decide) ?_
  refine TF.u (v := (.int .i64 _)) rfl rfl (pr_move rfl) ?_
  refine TF.u (v := (.bool _)) rfl rfl (pr_geq rfl rfl) ?_
  refine TF.u (v := (.bool _)) rfl rfl (pr_move rfl) ?_
  refine TF.split (dj := 7) rfl (fun hq2 => ?_) (fun hq2 => ?_)
  ·
    have hp2 := dT hq2
    refine TF.ug (v := (.int .i64 _)) rfl rfl (wantF_yes rfl rfl rfl hq2) (pr_move rfl) ?_
    refine TF.ug (v := (.pointer (some ⟨_, 0, none⟩))) rfl rfl (wantF_yes rfl rfl rfl hq2) (pr_move rfl) ?_
    refine TF.ug (v := (.pointer (some _))) rfl rfl (wantF_yes rfl rfl rfl hq2) (pr_nil rfl) ?_
    refine TF.ug (v := (.pointer (some ⟨_, 0, none⟩))) rfl rfl (wantF_yes rfl rfl rfl hq2) (pr_field (o' := 0) Try.underlying92 rfl (Try.ty87.s) (by decide) rfl rfl) ?_
    refine TF.load (v := (.slice A n_ c)) rfl rfl (wantF_yes rfl rfl rfl hq2) Try.underlying87 rfl rfl ((hblk.below H.base).at_ rfl) ?_
    refine TF.ug (v := (.int .i64 _)) rfl rfl (wantF_yes rfl rfl rfl hq2) (pr_len rfl Try.underlying87 rfl) ?_
    refine TF.ug (v := (.bool _)) rfl rfl (wantF_yes rfl rfl rfl hq2) (pr_lss rfl rfl) ?_
    refine TF.u (v := (.bool _)) rfl rfl (pr_pickT rfl hq2 rfl) ?_
    refine TF.u (v := (.bool _)) rfl rfl (pr_assign rfl) ?_
    refine TF.nil (nx_then ?_)
    refine cw_ret (fin1 (v := (.bool _)) Try.results49 rfl rfl ?_)
    exact ⟨congrArg _ (congrArg _ (Bool.eq_iff_iff.2 (by rw [thereP_iff]; first | (simp_all; done) | (simp_all; omega)))), H.base⟩
  ·
    have hp2 := dF hq2
    refine TF.skip rfl (wantF_no rfl rfl rfl hq2) ?_
    refine TF.skip rfl (wantF_no rfl rfl rfl hq2) ?_
    refine TF.skip rfl (wantF_no rfl rfl rfl hq2) ?_
    refine TF.skip rfl (wantF_no rfl rfl rfl hq2) ?_
    refine TF.skip rfl (wantF_no rfl rfl rfl hq2) ?_
    refine TF.skip rfl (wantF_no rfl rfl rfl hq2) ?_
    refine TF.skip rfl (wantF_no rfl rfl rfl hq2) ?_
    refine TF.u (v := (.bool _)) rfl rfl (pr_pickF rfl hq2 rfl) ?_
    refine TF.u (v := (.bool _)) rfl rfl (pr_assign rfl) ?_
    refine TF.nil (nx_then ?_)
    refine cw_ret (fin1 (v := (.bool _)) Try.results49 rfl rfl ?_)
    exact ⟨congrArg _ (congrArg _ (Bool.eq_iff_iff.2 (by rw [thereP_iff]; first | (simp_all; done) | (simp_all; omega)))), H.base⟩

theorem rread_ok (rb : Nat) (s : SS) (F : List Nat) (id : Int) (w0 : World) (hF : (cRStore 9 92 rb (s)).p w0 F) (ok : ROk s) (h1 : -9223372036854775808 ≤ id) (h2 : id ≤ 9223372036854775807) :
    Calls Try.prog 39 #[.pointer (some ⟨rb, 0, none⟩), .int .i64 id] w0 fun e w => e = .returned (.tuple #[.agg ⟨pgV (sRead s id).1⟩, .int .i64 (sRead s id).2]) ∧ Below w0.heap.size w0 w := by
  refine enter (args := [.pointer (some ⟨rb, 0, none⟩), .int .i64 id]) Try.func39 rfl Try.ntmps39 rfl ?_
  have H := Sat.start w0
  obtain ⟨A, n_, c, hblk, hrow⟩ := cRStore_rd hF
  have hn_ : s.pl.length = n_ := rrow_len hrow
  obtain ⟨hk1, hk2, hk3, hk4, hk5⟩ := (show ROk s from ok)
  refine cw_seq ?_
  -- region 0 ref.go:91
  refine cw_region (clf [.X, .U]) [0, 1] rfl (by kernel_rfl) (by decide) ?_
  refine TF.alloc H rfl (Cx.xx rfl) (wantF_none rfl) (Try.ty27) rfl ?_
  clear H
  intro bk1 w hltbk1 hb2 H
  replace H : Sat _ _ _ (cBlk _ _ (pgV noPg) :: _) := H
  replace H : Sat _ _ _ [_] := H
  refine TF.u (v := (.int .i64 _)) rfl rfl (pr_assign rfl) ?_
  refine TF.nil (nx_then ?_)
  refine cw_seq ?_
  refine cw_seq ?_
  -- region 1 ref.go:92
  refine cw_region (clf [.U, .U, .X, .U]) [0, 1, 2, 3] rfl (by kernel_rfl) (by decide) ?_
  refine TF.u (v := (.pointer (some ⟨_, 0, none⟩))) rfl rfl (pr_move rfl) ?_
  refine TF.u (v := (.int .i64 _)) rfl rfl (pr_move rfl) ?_
  refine TF.call (args := [(.pointer (some ⟨_, 0, none⟩)), (.int .i64 _)]) Try.fn49 rfl rfl (wantF_none rfl) rfl (rthere_ok _ _ _ _ _ (Chk.belowS _ hF H.base) ok (by omega) (by omega)) ?_
  rintro e_ w ⟨rfl, hb3⟩
  refine ⟨_, rfl, ?_⟩
  replace H := H.below hb3
  refine TF.u (v := (.bool _)) rfl rfl (pr_not rfl) ?_
  refine TF.nil (nx_then ?_)
  refine cw_cond _ rfl rfl (fun hq5 => ?_) (fun hq5 => ?_)
  ·
    have hp5 := (nT hq5)
    refine cw_seq ?_
    -- region 2 ref.go:93
    refine cw_region (clf [.U, .X, .U]) [0, 1, 2] rfl (by kernel_rfl) (by decide) ?_
    refine TF.u (v := (.agg ⟨pgV noPg⟩)) rfl rfl (pr_build (cs := pgV noPg) Try.bld27 rfl rfl) ?_
    refine TF.storeN (q := 0) (cs' := pgV noPg) H rfl rfl rfl (wantF_none rfl) (Try.ty27.s) rfl rfl (pgV_len noPg_ok.len) (pgV_one _) (by have h_ : (pgV noPg).length = 17 := (pgV_len noPg_ok.len); omega) (store_all (pgV_len noPg_ok.len)) ?_
    clear H
    intro w ho6 H
    replace H : Sat _ _ _ [_] := H
    refine TF.u (v := (.int .i64 _)) rfl rfl (pr_assign rfl) ?_
    refine TF.nil (nx_then ?_)
    refine cw_ret (rt_then (finC2 (v := (.int .i64 _)) (cs := pgV noPg) Try.results39 rfl rfl (Try.ty27.s) rfl rfl (H.blk (k := 0) rfl) (pgV_len noPg_ok.len) rfl ?_))
    rw [sRead, if_neg (by simp_all)]
    exact ⟨rfl, H.base⟩
  ·
    have hp5 := (nF hq5)
    refine cw_skip (nx_then ?_)
    refine cw_seq ?_
    -- region 3 ref.go:95
    refine cw_region (clf [.U, .U, .U, .U, .X, .U, .U, .X, .X, .U, .U, .X, .U]) [0, 1, 2, 3, 4, 5, 6, 7, 8, 9, 10, 11, 12] rfl (by kernel_rfl) (by decide) ?_
    obtain ⟨k, x, rfl, hk, hx, hxl, hxe⟩ := ok.pl_at (by assumption)
    refine TF.u (v := (.int .i64 _)) rfl rfl (pr_move rfl) ?_
    refine TF.u (v := (.pointer (some ⟨_, 0, none⟩))) rfl rfl (pr_move rfl) ?_
    refine TF.u (v := (.pointer (some _))) rfl rfl (pr_nil rfl) ?_
    refine TF.u (v := (.pointer (some ⟨_, 0, none⟩))) rfl rfl (pr_field (o' := 0) Try.underlying92 rfl (Try.ty87.s) (by decide) rfl rfl) ?_
    refine TF.load (v := (.slice A n_ c)) rfl rfl (wantF_none rfl) Try.underlying87 rfl rfl ((hblk.below H.base).at_ rfl) ?_
    refine TF.u (v := (.int .i64 _)) rfl rfl (pr_move rfl) ?_
    refine TF.idx (hrow.below H.base) rfl rfl (wantF_none rfl) Try.underlying87 (Try.ty9.s) rfl rfl (by omega) (by omega) ?_
    intro p_ hc_
    replace hc_ : World.cell? _ p_ = some (T x) := (by have h_ := hc_ 0 (T x) (by decide) (by simpa using str_at hx); rwa [add_zero] at h_)
    refine TF.load (v := (T x)) rfl rfl (wantF_none rfl) Try.underlying9 rfl rfl hc_ ?_
    refine TF.call (args := [(.int .i64 _), (T x)]) Try.fn53 rfl rfl (wantF_none rfl) rfl (rdecode_ok _ _ _ (by omega) (by omega) (by omega)) ?_
    rintro e_ w ⟨rfl, hb7⟩
    refine ⟨_, rfl, ?_⟩
    replace H := H.below hb7
    refine TF.u (v := (.agg ⟨pgV ((decS (k : Int) x).1)⟩)) rfl rfl (pr_extract (vs := _) rfl rfl) ?_
    refine TF.u (v := (.int .i64 _)) rfl rfl (pr_extract (vs := _) rfl rfl) ?_
    refine TF.storeN (q := 0) (cs' := pgV ((decS (k : Int) x).1)) H rfl rfl rfl (wantF_none rfl) (Try.ty27.s) rfl rfl (pgV_len (decS_ok (k : Int) x).len) (pgV_one _) (by have h_ : (pgV noPg).length = 17 := (pgV_len noPg_ok.len); omega) (store_all (pgV_len noPg_ok.len)) ?_
    clear H
    intro w ho8 H
    replace H : Sat _ _ _ [_] := H
    refine TF.u (v := (.int .i64 _)) rfl rfl (pr_assign rfl) ?_
    refine TF.nil (nx_then ?_)
    refine cw_ret (finC2 (v := (.int .i64 _)) (cs := pgV ((decS (k : Int) x).1)) Try.results39 rfl rfl (Try.ty27.s) rfl rfl (H.blk (k := 0) rfl) (pgV_len (decS_ok (k : Int) x).len) rfl ?_)
    rw [sRead, if_pos (by assumption), hxe]
    exact ⟨rfl, H.base⟩

theorem rnew_ok (pages : Int) (w0 : World) (h1 : -9223372036854775808 ≤ pages) (h2 : pages ≤ 9223372036854775807) :
    Calls Try.prog 20 #[.int .i64 pages] w0 fun e w => ∃ rb, e = .returned (.pointer (some ⟨rb, 0, none⟩)) ∧ NewC (cRStore 9 92 rb (rNew pages)) w0 w ∧ ROk (rNew pages) := by
  refine enter (args := [.int .i64 pages]) Try.func20 rfl Try.ntmps20 rfl ?_
  have H := Sat.start w0
  refine cw_seq ?_
  -- region 0 ref.go:23
  refine cw_region (clf [.U]) [0] rfl (by kernel_rfl) (by decide) ?_
  refine TF.u (v := (.pointer _)) rfl rfl (pr_assign rfl) ?_
  refine TF.nil (nx_then ?_)
  refine cw_seq ?_
  -- region 1 ref.go:24
  refine cw_region (clf [.U, .X, .U]) [0, 1, 2] rfl (by kernel_rfl) (by decide) ?_
  refine TF.u (v := (.agg ⟨rsbV noRSB⟩)) rfl rfl (pr_build (cs := rsbV noRSB) Try.bld92 rfl rfl) ?_
  refine TF.box (v := (.agg ⟨rsbV noRSB⟩)) H rfl (Cx.xx rfl) (wantF_none rfl) rfl rfl ?_
  clear H
  intro bk1 w hltbk1 hb2 H
  refine TF.u (v := (.pointer (some ⟨_, 0, none⟩))) rfl rfl (pr_assign rfl) ?_
  refine TF.nil (nx_then ?_)
  refine cw_seq ?_
  refine cw_seq ?_
  -- region 2 ref.go:25
  refine cw_region (clf [.U]) [0] rfl (by kernel_rfl) (by decide) ?_
  refine TF.u (v := (.int .i64 _)) rfl rfl (pr_assign rfl) ?_
  refine TF.nil (nx_then ?_)
  refine cw_block ?_
  refine cw_loop (fun m_q f_q w => ∃ (g_ : Nat → Value) (i : Nat) (A1 : Option Addr) (c1 : Nat), m_q = numPl pages - i ∧ f_q = (upd (upd (upd g_ 0 (.int .i64 pages)) 3 (.pointer (some ⟨bk1, 0, none⟩))) 4 (.int .i64 (i : Int))) ∧ Sat [] w0 w [cOwn 9 1 A1 i c1 (((List.range (i)).map fun q => imageS q noPg).flatMap strC), cBlk bk1 92 (rsbV (SB.mk A1 i c1 (List.replicate 8 noNd)))] ∧ (i ≤ numPl pages)) (numPl pages - 0) ?_ ?_
  ·
    exact ⟨_, 0, _, _, rfl, (cutS (cutS (cutS rfl rfl) rfl) rfl), (H.newS (NewS.nil _ 9 1)), Nat.zero_le _⟩
  ·
    clear H
    rintro m_ f_ w ⟨g_, i, A1, c1, rfl, rfl, H, hi⟩
    refine cw_seq ?_
    refine cw_seq ?_
    -- region 3 ref.go:25
    refine cw_region (clf [.U, .U, .U, .U, .U]) [0, 1, 2, 3, 4] rfl (by kernel_rfl) (by decide) ?_
    refine TF.u (v := (.int .i64 _)) rfl rfl (pr_move rfl) ?_
    refine TF.u (v := (.int .i64 _)) rfl rfl (pr_move rfl) ?_
    refine TF.u (v := (.int .i64 _)) rfl rfl (pr_min2 rfl rfl rfl) ?_
    refine TF.u (v := (.int .i64 _)) rfl rfl (pr_max2 rfl rfl (show _ = ((numPl pages : Nat) : Int) by unfold numPl; omega)) ?_
    refine TF.u (v := (.bool _)) rfl rfl (pr_lss rfl rfl) ?_
    refine TF.nil (nx_then ?_)
    refine cw_cond _ rfl rfl (fun hq4 => ?_) (fun hq4 => ?_)
    ·
      have hp4 := dT hq4
      refine cw_skip (nx_then ?_)
      refine cw_seq ?_
      refine cw_block ?_
      -- region 5 ref.go:26
      refine cw_drawS H Try.wide_ (clf [.U, .U, .U, .U, .R, .U, .U, .P, .P, .X, .U, .U, .X]) [0, 1, 2, 3, 4, 5, 6, 7, 8, 9, 10, 11, 12] (by kernel_rfl) (by kernel_rfl) ?_
      clear H
      intro w hbr H hB
      have hnp : numPl pages ≤ 32 := by unfold numPl; omega
      have hrn : rightP noPg = true := by decide
      refine TF.u (v := (.pointer (some ⟨_, 0, none⟩))) rfl rfl (pr_move rfl) ?_
      refine TF.u (v := (.pointer (some ⟨_, 0, none⟩))) rfl rfl (pr_move rfl) ?_
      refine TF.u (v := (.pointer (some _))) rfl rfl (pr_nil rfl) ?_
      refine TF.u (v := (.pointer (some ⟨_, 0, none⟩))) rfl rfl (pr_field (o' := 0) Try.underlying92 rfl (Try.ty87.s) (by decide) rfl rfl) ?_
      refine TF.loadr (v := (.slice A1 i c1)) rfl rfl (wantF_none rfl) Try.underlying87 rfl rfl ((H.blk (k := 1) rfl).atB rfl) ?_
      refine TF.u (v := (.int .i64 _)) rfl rfl (pr_move rfl) ?_
      refine TF.u (v := (.agg ⟨pgV noPg⟩)) rfl rfl (pr_build (cs := pgV noPg) Try.bld27 rfl rfl) ?_
      refine TF.callp (args := [(.int .i64 _), (.agg ⟨pgV noPg⟩)]) Try.fn36 rfl rfl (wantF_none rfl) rfl (rimage_ok _ noPg noPg_ok _ (by omega) (by assumption)) ?_
      rintro e_ w ⟨rfl, hb5⟩
      refine ⟨_, rfl, fun x => Below w.heap.size w x, fun x hx => below_trans (below_trans hB hb5) hx, Below.refl _ _, ?_⟩
      replace hB := Below.refl w.heap.size w
      replace H := H.below hb5
      refine TF.lit (vs := [T (imageS i noPg)]) H rfl (Cx.re hB rfl) (wantF_none rfl) Try.underlying87 (Try.ty9) rfl rfl rfl rfl rfl rfl ?_
      clear H
      intro bk6 w hltbk6 hb7 H
      replace hB := Below.refl w.heap.size w
      replace H : Sat _ _ _ (cBlk _ _ (strC (imageS i noPg)) :: _) := H
      replace H : Sat _ _ _ [_, _, _] := H
      skip
      refine TF.append (q := 1) (v := (.slice _ _ _)) H rfl rfl rfl (wantF_none rfl) Try.underlying87 (Try.ty9) rfl Try.underlying87 (.inr ⟨_, rfl⟩) rfl rfl (Src.rd ((H.blk (k := 0) rfl).own 1 rfl (by decide)).rd (by simp [strC, Value.oneCell'])) (by unfold maxLen; first | omega | (simp only [List.length_append, List.length_cons, List.length_nil]; omega)) (by first | omega | (simp only [List.length_append, List.length_cons, List.length_nil]; omega)) ?_
      clear H
      intro Arow_8 crow_8 w ho8 H
      replace H : Sat _ _ _ [_, _, _] := H
      skip
      refine TF.u (v := (.pointer (some _))) rfl rfl (pr_nil rfl) ?_
      refine TF.u (v := (.pointer (some ⟨_, 0, none⟩))) rfl rfl (pr_field (o' := 0) Try.underlying92 rfl (Try.ty87.s) (by decide) rfl rfl) ?_
      refine TF.store (v := (.slice _ _ _)) (q := 2) H rfl rfl rfl (wantF_none rfl) (Try.ty87.s) rfl rfl rfl rfl ?_
      clear H
      intro w ho9 H
      replace H : Sat _ _ _ [_, _, _] := H
      replace H : Sat _ _ _ [_, _, cBlk _ _ (rsbV (SB.mk Arow_8 (i + 1) crow_8 (List.replicate 8 noNd)))] := H
      clear hB
      refine TF.nil (nx_block (nx_then ?_))
      -- region 4 ref.go:25
      refine cw_region (clf [.U, .U, .U]) [0, 1, 2] rfl (by kernel_rfl) (by decide) ?_
      refine TF.u (v := (.int .i64 _)) rfl rfl (pr_move rfl) ?_
      refine TF.u (v := (.int .i64 _)) rfl rfl (pr_add rfl rfl (IntWalk.i64_in _ (by omega))) ?_
      refine TF.u (v := (.int .i64 _)) rfl rfl (pr_assign rfl) ?_
      refine TF.nil (nx_loop (m' := numPl pages - (i + 1)) (by omega) ?_)
      exact ⟨_, i + 1, _, _, rfl, (cutS (cutS (cutS rfl rfl) rfl) rfl), (by rw [List.range_succ, List.map_append, List.flatMap_append]; simp only [List.map_cons, List.map_nil, List.flatMap_cons, List.flatMap_nil, List.append_nil]; exact H.two (i := 1) (j := 1) rfl rfl), by omega⟩
    ·
      have hp4 := dF hq4
      refine cw_exit (ex_then (ex_then (ex_here (nx_then ?_))))
      refine cw_seq ?_
      -- region 6 ref.go:28
      refine cw_region (clf [.U, .U]) [0, 1] rfl (by kernel_rfl) (by decide) ?_
      refine TF.u (v := (.pointer (some ⟨_, 0, none⟩))) rfl rfl (pr_move rfl) ?_
      refine TF.u (v := (.pointer (some ⟨_, 0, none⟩))) rfl rfl (pr_assign rfl) ?_
      refine TF.nil (nx_then ?_)
      refine cw_ret (fin1 (v := (.pointer (some ⟨_, 0, none⟩))) Try.results20 rfl rfl ?_)
      obtain rfl : i = numPl pages := by omega
      have H9 : Sat [] w0 _ [cRStore 9 92 bk1 (rNew pages)] := Sat.ex (A1, numPl pages, c1) H.sep
      exact ⟨_, rfl, H9.toNewC (k := 0) rfl, rNew_ok _⟩

theorem rwrite_ok (rb : Nat) (s : SS) (F : List Nat) (n id m : Int) (p : PG) (okp : POk p) (w0 : World) (hF : (cRStore 9 92 rb (s)).p w0 F) (ok : ROk s) (hn1 : -9223372036854775808 ≤ n) (hn2 : n ≤ 9223372036854775807) (h1 : -9223372036854775808 ≤ id) (h2 : id ≤ 9223372036854775807) (hm1 : -9223372036854775808 ≤ m) (hm2 : m ≤ 9223372036854775807) :
    Calls Try.prog 37 #[.pointer (some ⟨rb, 0, none⟩), .int .i64 n, .int .i64 id, .agg ⟨pgV p⟩, .int .i64 m] w0 fun e w => e = .returned (.int .i64 (rWrite s n id p m).2) ∧ Upd (cRStore 9 92 rb ((rWrite s n id p m).1)) F w0 w ∧ ROk ((rWrite s n id p m).1) := by
  refine enter (args := [.pointer (some ⟨rb, 0, none⟩), .int .i64 n, .int .i64 id, .agg ⟨pgV p⟩, .int .i64 m]) Try.func37 rfl Try.ntmps37 rfl ?_
  have H := Sat.start1 hF
  have hpl2 := ok.pl2
  refine cw_seq ?_
  -- region 0 ref.go:51
  refine cw_region (clf [.X, .U]) [0, 1] rfl (by kernel_rfl) (by decide) ?_
  refine TF.box (v := (.agg ⟨pgV p⟩)) H rfl (Cx.xx rfl) (wantF_none rfl) rfl rfl ?_
  clear H
  intro bk1 w hltbk1 hb2 H
  refine TF.u (v := (.int .i64 _)) rfl rfl (pr_assign rfl) ?_
  refine TF.nil (nx_then ?_)
  refine cw_seq ?_
  refine cw_seq ?_
  -- region 1 ref.go:52
  refine cw_region (clf [.U, .X, .U, .U, .U, .U, .X, .U, .U, .U, .X, .X, .U, .U, .U, .U, .X, .U, .U]) [0, 1, 2, 3, 4, 5, 6, 7, 8, 9, 10, 11, 12, 13, 14, 15, 16, 17, 18] rfl (by kernel_rfl) (by decide) ?_
  refine TF.u (v := (.int .i64 _)) rfl rfl (pr_move rfl) ?_
  refine TF.call (args := [(.int .i64 _)]) Try.fn48 rfl rfl (wantF_none rfl) rfl (rnode_ok _ _ (by omega) (by omega)) ?_
  rintro e_ w ⟨rfl, hb3⟩
  refine ⟨_, rfl, ?_⟩
  replace H := H.below hb3
  refine TF.u (v := (.bool _)) rfl rfl (pr_not rfl) ?_
  refine TF.u (v := (.bool _)) rfl rfl (pr_move rfl) ?_
  refine TF.split (dj := 18) rfl (fun hq5 => ?_) (fun hq5 => ?_)
  ·
    have hp5 := (nT hq5)
    refine TF.skip rfl (wantF_no rfl rfl rfl (bnF (nT hq5))) ?_
    refine TF.skip rfl (wantF_no rfl rfl rfl (bnF (nT hq5))) ?_
    refine TF.skip rfl (wantF_no rfl rfl rfl (bnF (nT hq5))) ?_
    refine TF.skip rfl (wantF_no rfl rfl rfl (bnF (nT hq5))) ?_
    refine TF.u (v := (.bool _)) rfl rfl (pr_pickT rfl (bnF (nT hq5)) rfl) ?_
    refine TF.u (v := (.bool _)) rfl rfl (pr_move rfl) ?_
    refine TF.skip rfl (wantF_no rfl rfl rfl rfl) ?_
    refine TF.skip rfl (wantF_no rfl rfl rfl rfl) ?_
    refine TF.skip rfl (wantF_no rfl rfl rfl rfl) ?_
    refine TF.u (v := (.bool _)) rfl rfl (pr_pickT rfl rfl rfl) ?_
    refine TF.u (v := (.bool _)) rfl rfl (pr_move rfl) ?_
    refine TF.skip rfl (wantF_no rfl rfl rfl rfl) ?_
    refine TF.skip rfl (wantF_no rfl rfl rfl rfl) ?_
    refine TF.skip rfl (wantF_no rfl rfl rfl rfl) ?_
    refine TF.u (v := (.bool _)) rfl rfl (pr_pickT rfl rfl rfl) ?_
    refine TF.nil (nx_then ?_)
    refine cw_condT (t := _) rfl rfl rfl ?_
    refine cw_seq ?_
    -- region 2 ref.go:53
    refine cw_region (clf [.U]) [0] rfl (by kernel_rfl) (by decide) ?_
    refine TF.u (v := (.int .i64 _)) rfl rfl (pr_assign rfl) ?_
    refine TF.nil (nx_then ?_)
    refine cw_ret (rt_then (fin1 (v := (.int .i64 _)) Try.results37 rfl rfl ?_))
    rw [rWrite_1 (by rintro ⟨h1_, h2_, h3_, h4_⟩; simp_all)]
    have H9 := H.only1 (i := 1) rfl
    exact ⟨rfl, H9.toUpd (k := 0) rfl, ok⟩
  ·
    have hp5 := (nF hq5)
    refine TF.ug (v := (.pointer (some ⟨_, 0, none⟩))) rfl rfl (wantF_yes rfl rfl rfl (bnT (nF hq5))) (pr_move rfl) ?_
    refine TF.ug (v := (.int .i64 _)) rfl rfl (wantF_yes rfl rfl rfl (bnT (nF hq5))) (pr_move rfl) ?_
    obtain ⟨F8, hF8, hU8⟩ := H.focus (k := 1) rfl
    refine TF.call (args := [(.pointer (some ⟨_, 0, none⟩)), (.int .i64 _)]) Try.fn49 rfl rfl (wantF_yes rfl rfl rfl (bnT (nF hq5))) rfl (rthere_ok _ _ _ _ _ hF8 ok (by omega) (by omega)) ?_
    rintro e_ w ⟨rfl, hb6⟩
    refine ⟨_, rfl, ?_⟩
    replace H := H.below hb6
    refine TF.ug (v := (.bool _)) rfl rfl (wantF_yes rfl rfl rfl (bnT (nF hq5))) (pr_not rfl) ?_
    refine TF.u (v := (.bool _)) rfl rfl (pr_pickF rfl (bnT (nF hq5)) rfl) ?_
    refine TF.u (v := (.bool _)) rfl rfl (pr_move rfl) ?_
    refine TF.split (dj := 24) rfl (fun hq9 => ?_) (fun hq9 => ?_)
    ·
      have hp9 := (nT hq9)
      refine TF.skip rfl (wantF_no rfl rfl rfl (bnF (nT hq9))) ?_
      refine TF.skip rfl (wantF_no rfl rfl rfl (bnF (nT hq9))) ?_
      refine TF.skip rfl (wantF_no rfl rfl rfl (bnF (nT hq9))) ?_
      refine TF.u (v := (.bool _)) rfl rfl (pr_pickT rfl (bnF (nT hq9)) rfl) ?_
      refine TF.u (v := (.bool _)) rfl rfl (pr_move rfl) ?_
      refine TF.skip rfl (wantF_no rfl rfl rfl rfl) ?_
      refine TF.skip rfl (wantF_no rfl rfl rfl rfl) ?_
      refine TF.skip rfl (wantF_no rfl rfl rfl rfl) ?_
      refine TF.u (v := (.bool _)) rfl rfl (pr_pickT rfl rfl rfl) ?_
      refine TF.nil (nx_then ?_)
      refine cw_condT (t := _) rfl rfl rfl ?_
      refine cw_seq ?_
      -- region 2 ref.go:53
      refine cw_region (clf [.U]) [0] rfl (by kernel_rfl) (by decide) ?_
      refine TF.u (v := (.int .i64 _)) rfl rfl (pr_assign rfl) ?_
      refine TF.nil (nx_then ?_)
      refine cw_ret (rt_then (fin1 (v := (.int .i64 _)) Try.results37 rfl rfl ?_))
      rw [rWrite_1 (by rintro ⟨h1_, h2_, h3_, h4_⟩; simp_all)]
      have H9 := H.only1 (i := 1) rfl
      exact ⟨rfl, H9.toUpd (k := 0) rfl, ok⟩
    ·
      have hp9 := (nF hq9)
      refine TF.loadE (cs' := pgV p) rfl rfl (wantF_yes rfl rfl rfl (bnT (nF hq9))) (Try.ty27.s) rfl rfl (H.blk (k := 0) rfl) (pgV_len okp.len) (pgV_all okp.len) ?_
      refine TF.call (args := [(.agg ⟨pgV p⟩)]) Try.fn11 rfl rfl (wantF_yes rfl rfl rfl (bnT (nF hq9))) rfl (rright_ok p okp _) ?_
      rintro e_ w ⟨rfl, hb10⟩
      refine ⟨_, rfl, ?_⟩
      replace H := H.below hb10
      refine TF.ug (v := (.bool _)) rfl rfl (wantF_yes rfl rfl rfl (bnT (nF hq9))) (pr_not rfl) ?_
      refine TF.u (v := (.bool _)) rfl rfl (pr_pickF rfl (bnT (nF hq9)) rfl) ?_
      refine TF.u (v := (.bool _)) rfl rfl (pr_move rfl) ?_
      refine TF.split (dj := 29) rfl (fun hq12 => ?_) (fun hq12 => ?_)
      ·
        have hp12 := (nT hq12)
        refine TF.skip rfl (wantF_no rfl rfl rfl (bnF (nT hq12))) ?_
        refine TF.skip rfl (wantF_no rfl rfl rfl (bnF (nT hq12))) ?_
        refine TF.skip rfl (wantF_no rfl rfl rfl (bnF (nT hq12))) ?_
        refine TF.u (v := (.bool _)) rfl rfl (pr_pickT rfl (bnF (nT hq12)) rfl) ?_
        refine TF.nil (nx_then ?_)
        refine cw_condT (t := _) rfl rfl rfl ?_
        refine cw_seq ?_
        -- region 2 ref.go:53
        refine cw_region (clf [.U]) [0] rfl (by kernel_rfl) (by decide) ?_
        refine TF.u (v := (.int .i64 _)) rfl rfl (pr_assign rfl) ?_
        refine TF.nil (nx_then ?_)
        refine cw_ret (rt_then (fin1 (v := (.int .i64 _)) Try.results37 rfl rfl ?_))
        rw [rWrite_1 (by rintro ⟨h1_, h2_, h3_, h4_⟩; simp_all)]
        have H9 := H.only1 (i := 1) rfl
        exact ⟨rfl, H9.toUpd (k := 0) rfl, ok⟩
      ·
        have hp12 := (nF hq12)
        refine TF.ug (v := (.int .i64 _)) rfl rfl (wantF_yes rfl rfl rfl (bnT (nF hq12))) (pr_move rfl) ?_
        refine TF.call (args := [(.int .i64 _)]) Try.fn19 rfl rfl (wantF_yes rfl rfl rfl (bnT (nF hq12))) rfl (rmask_ok _ _ (by omega) (by omega)) ?_
        rintro e_ w ⟨rfl, hb13⟩
        refine ⟨_, rfl, ?_⟩
        replace H := H.below hb13
        refine TF.ug (v := (.bool _)) rfl rfl (wantF_yes rfl rfl rfl (bnT (nF hq12))) (pr_not rfl) ?_
        refine TF.u (v := (.bool _)) rfl rfl (pr_pickF rfl (bnT (nF hq12)) rfl) ?_
        refine TF.nil (nx_then ?_)
        refine cw_cond _ rfl rfl (fun hq15 => ?_) (fun hq15 => ?_)
        ·
          have hp15 := (nT hq15)
          refine cw_seq ?_
          -- region 2 ref.go:53
          refine cw_region (clf [.U]) [0] rfl (by kernel_rfl) (by decide) ?_
          refine TF.u (v := (.int .i64 _)) rfl rfl (pr_assign rfl) ?_
          refine TF.nil (nx_then ?_)
          refine cw_ret (rt_then (fin1 (v := (.int .i64 _)) Try.results37 rfl rfl ?_))
          rw [rWrite_1 (by rintro ⟨h1_, h2_, h3_, h4_⟩; simp_all)]
          have H9 := H.only1 (i := 1) rfl
          exact ⟨rfl, H9.toUpd (k := 0) rfl, ok⟩
        ·
          have hp15 := (nF hq15)
          refine cw_skip (nx_then ?_)
          refine cw_seq ?_
          refine cw_seq ?_
          -- region 3 ref.go:55
          refine cw_region (clf [.U]) [0] rfl (by kernel_rfl) (by decide) ?_
          have h123 : nodeP n = true ∧ thereP s id = true ∧ rightP p = true ∧ wholeP m = true := ⟨by assumption, by assumption, by assumption, by assumption⟩
          replace H := H.front 1 rfl
          obtain ⟨⟨A, n_, c⟩, H⟩ := H.unex
          replace H := H.unsep
          replace H : Sat F w0 _ (cOwn 9 1 A n_ c (s.pl.flatMap strC) :: cBlk rb 92 (rsbV (SB.mk A n_ c s.ar)) :: _) := H
          replace H : Sat _ _ _ [_, _, _] := H
          have hn_ : s.pl.length = n_ := rrow_len (H.rd (k := 0) rfl)
          refine TF.u (v := (.int .i64 _)) rfl rfl (pr_assign rfl) ?_
          refine TF.nil (nx_then ?_)
          refine cw_block ?_
          refine cw_loop (fun m_q f_q w => ∃ (g_ : Nat → Value) (i : Nat), m_q = 8 - i ∧ f_q = (upd (upd (upd (upd (upd (upd g_ 0 (.pointer (some ⟨rb, 0, none⟩))) 1 (.int .i64 n)) 2 (.int .i64 id)) 4 (.int .i64 m)) 8 (.pointer (some ⟨bk1, 0, none⟩))) 11 (.int .i64 (i : Int))) ∧ Sat F w0 w [cOwn 9 1 A n_ c (s.pl.flatMap strC), cBlk rb 92 (rsbV (SB.mk A n_ c s.ar)), cBlk bk1 27 (pgV p)] ∧ (i ≤ 8) ∧ (busyS s n id = busyA n id i (s.ar.drop i))) (8 - 0) ?_ ?_
          ·
            exact ⟨_, 0, rfl, (cutS (cutS (cutS (cutS (cutS (cutS rfl rfl) rfl) rfl) rfl) rfl) rfl), H, Nat.zero_le _, rfl⟩
          ·
            clear H
            rintro m_ f_ w ⟨g_, i, rfl, rfl, H, hi, hB_⟩
            refine cw_seq ?_
            refine cw_seq ?_
            -- region 4 ref.go:55
            refine cw_region (clf [.U, .U]) [0, 1] rfl (by kernel_rfl) (by decide) ?_
            refine TF.u (v := (.int .i64 _)) rfl rfl (pr_move rfl) ?_
            refine TF.u (v := (.bool _)) rfl rfl (pr_lss rfl rfl) ?_
            refine TF.nil (nx_then ?_)
            refine cw_cond _ rfl rfl (fun hq17 => ?_) (fun hq17 => ?_)
            ·
              have hp17 := dT hq17
              refine cw_skip (nx_then ?_)
              refine cw_seq ?_
              refine cw_block ?_
              refine cw_seq ?_
              -- region 6 ref.go:56
              refine cw_region (clf [.U, .U, .U, .U, .U, .U, .X, .U, .U, .U, .U, .U, .U, .U, .U, .U, .U, .U, .X, .U, .U, .U, .U]) [0, 1, 2, 3, 4, 5, 6, 7, 8, 9, 10, 11, 12, 13, 14, 15, 16, 17, 18, 19, 20, 21, 22] rfl (by kernel_rfl) (by decide) ?_
              refine TF.u (v := (.pointer (some ⟨_, 0, none⟩))) rfl rfl (pr_move rfl) ?_
              refine TF.u (v := (.int .i64 _)) rfl rfl (pr_move rfl) ?_
              refine TF.u (v := (.pointer (some _))) rfl rfl (pr_nil rfl) ?_
              refine TF.u (v := (.pointer (some ⟨_, 1, none⟩))) rfl rfl (pr_field (o' := 1) Try.underlying92 rfl (Try.ty90.s) (by decide) rfl rfl) ?_
              obtain ⟨o18, ho18⟩ : ∃ o, s.ar[i]? = some o := ⟨_, List.getElem?_eq_getElem (by rw [ok.ar]; omega)⟩
              refine TF.u (v := (.pointer (some ⟨_, _, none⟩))) rfl rfl (pr_idxA Try.underlying90 (Try.ty89.s) rfl rfl (by omega) (by omega)) ?_
              refine TF.u (v := (.pointer (some ⟨_, _, none⟩))) rfl rfl (pr_field (o' := _) Try.underlying89 rfl (Try.ty4.s) (by decide) rfl rfl) ?_
              refine TF.load (v := (.bool o18.out)) rfl rfl (wantF_none rfl) Try.underlying4 rfl rfl ((H.blk (k := 1) rfl).at_ (rsb_at1 ho18)) ?_
              refine TF.u (v := (.bool o18.out)) rfl rfl (pr_move rfl) ?_
              refine TF.split (dj := 45) rfl (fun hq21 => ?_) (fun hq21 => ?_)
              ·
                have hp21 := hq21
                refine TF.ug (v := (.int .i64 _)) rfl rfl (wantF_yes rfl rfl rfl hq21) (pr_move rfl) ?_
                refine TF.ug (v := (.int .i64 _)) rfl rfl (wantF_yes rfl rfl rfl hq21) (pr_move rfl) ?_
                refine TF.ug (v := (.bool _)) rfl rfl (wantF_yes rfl rfl rfl hq21) (pr_eql rfl rfl) ?_
                refine TF.ug (v := (.bool _)) rfl rfl (wantF_yes rfl rfl rfl hq21) (pr_move rfl) ?_
                refine TF.split (dj := 49) rfl (fun hq23 => ?_) (fun hq23 => ?_)
                ·
                  have hp23 := dT hq23
                  refine TF.skip rfl (wantF_no rfl rfl rfl hq23) ?_
                  refine TF.skip rfl (wantF_no rfl rfl rfl hq23) ?_
                  refine TF.skip rfl (wantF_no rfl rfl rfl hq23) ?_
                  refine TF.skip rfl (wantF_no rfl rfl rfl hq23) ?_
                  refine TF.skip rfl (wantF_no rfl rfl rfl hq23) ?_
                  refine TF.skip rfl (wantF_no rfl rfl rfl hq23) ?_
                  refine TF.skip rfl (wantF_no rfl rfl rfl hq23) ?_
                  refine TF.skip rfl (wantF_no rfl rfl rfl hq23) ?_
                  refine TF.skip rfl (wantF_no rfl rfl rfl hq23) ?_
                  refine TF.ug (v := (.bool _)) rfl rfl (wantF_yes rfl rfl rfl hq21) (pr_pickT rfl hq23 rfl) ?_
                  refine TF.u (v := (.bool _)) rfl rfl (pr_pickT rfl hq21 rfl) ?_
                  refine TF.nil (nx_then ?_)
                  refine cw_condT (t := _) rfl rfl rfl ?_
                  refine cw_seq ?_
                  -- region 7 ref.go:57
                  refine cw_region (clf [.U]) [0] rfl (by kernel_rfl) (by decide) ?_
                  refine TF.u (v := (.int .i64 _)) rfl rfl (pr_assign rfl) ?_
                  refine TF.nil (nx_then ?_)
                  refine cw_ret (rt_block (rt_then (rt_then (rt_block (rt_then (fin1 (v := (.int .i64 _)) Try.results37 rfl rfl ?_))))))
                  rw [rWrite_b h123 (hB_.trans (busyA_yes ho18 (by assumption) (by first | exact .inl (by assumption) | exact .inr (by assumption))))]
                  refine ⟨rfl, Sat.toUpd (k := 0) (L := [_]) (Sat.ex ((A : Option Addr), n_, c) (H.two (i := 0) (j := 0) rfl rfl).sep) rfl, ok⟩
                ·
                  have hp23 := dF hq23
                  refine TF.ug (v := (.pointer (some ⟨_, 0, none⟩))) rfl rfl (wantF_yes rfl rfl rfl hq23) (pr_move rfl) ?_
                  refine TF.ug (v := (.int .i64 _)) rfl rfl (wantF_yes rfl rfl rfl hq23) (pr_move rfl) ?_
                  refine TF.ug (v := (.pointer (some _))) rfl rfl (wantF_yes rfl rfl rfl hq23) (pr_nil rfl) ?_
                  refine TF.ug (v := (.pointer (some ⟨_, 1, none⟩))) rfl rfl (wantF_yes rfl rfl rfl hq23) (pr_field (o' := 1) Try.underlying92 rfl (Try.ty90.s) (by decide) rfl rfl) ?_
                  refine TF.ug (v := (.pointer (some ⟨_, _, none⟩))) rfl rfl (wantF_yes rfl rfl rfl hq23) (pr_idxA Try.underlying90 (Try.ty89.s) rfl rfl (by omega) (by omega)) ?_
                  refine TF.ug (v := (.pointer (some ⟨_, _, none⟩))) rfl rfl (wantF_yes rfl rfl rfl hq23) (pr_field (o' := _) Try.underlying89 rfl (Try.ty3.s) (by decide) rfl rfl) ?_
                  refine TF.load (v := (.int .i64 o18.id)) rfl rfl (wantF_yes rfl rfl rfl hq23) Try.underlying3 rfl rfl ((H.blk (k := 1) rfl).at_ (rsb_at2 ho18)) ?_
                  refine TF.ug (v := (.int .i64 _)) rfl rfl (wantF_yes rfl rfl rfl hq23) (pr_move rfl) ?_
                  refine TF.ug (v := (.bool _)) rfl rfl (wantF_yes rfl rfl rfl hq23) (pr_eql rfl rfl) ?_
                  refine TF.ug (v := (.bool _)) rfl rfl (wantF_yes rfl rfl rfl hq21) (pr_pickF rfl hq23 rfl) ?_
                  refine TF.u (v := (.bool _)) rfl rfl (pr_pickT rfl hq21 rfl) ?_
                  refine TF.nil (nx_then ?_)
                  refine cw_cond _ rfl rfl (fun hq25 => ?_) (fun hq25 => ?_)
                  ·
                    have hp25 := dT hq25
                    refine cw_seq ?_
                    -- region 7 ref.go:57
                    refine cw_region (clf [.U]) [0] rfl (by kernel_rfl) (by decide) ?_
                    refine TF.u (v := (.int .i64 _)) rfl rfl (pr_assign rfl) ?_
                    refine TF.nil (nx_then ?_)
                    refine cw_ret (rt_block (rt_then (rt_then (rt_block (rt_then (fin1 (v := (.int .i64 _)) Try.results37 rfl rfl ?_))))))
                    rw [rWrite_b h123 (hB_.trans (busyA_yes ho18 (by assumption) (by first | exact .inl (by assumption) | exact .inr (by assumption))))]
                    refine ⟨rfl, Sat.toUpd (k := 0) (L := [_]) (Sat.ex ((A : Option Addr), n_, c) (H.two (i := 0) (j := 0) rfl rfl).sep) rfl, ok⟩
                  ·
                    have hp25 := dF hq25
                    refine cw_skip (nx_block (nx_then ?_))
                    -- region 5 ref.go:55
                    refine cw_region (clf [.U, .U, .U]) [0, 1, 2] rfl (by kernel_rfl) (by decide) ?_
                    refine TF.u (v := (.int .i64 _)) rfl rfl (pr_move rfl) ?_
                    refine TF.u (v := (.int .i64 _)) rfl rfl (pr_add rfl rfl (IntWalk.i64_in _ (by omega))) ?_
                    refine TF.u (v := (.int .i64 _)) rfl rfl (pr_assign rfl) ?_
                    refine TF.nil (nx_loop (m' := 8 - (i + 1)) (by omega) ?_)
                    exact ⟨_, i + 1, rfl, (cutS (cutS (cutS (cutS (cutS (cutS rfl rfl) rfl) rfl) rfl) rfl) rfl), H, by omega, hB_.trans (busyA_no ho18 (by first | exact .inl (by assumption) | exact .inr ⟨by assumption, by assumption⟩))⟩
              ·
                have hp21 := hq21
                refine TF.skip rfl (wantF_no rfl rfl rfl hq21) ?_
                refine TF.skip rfl (wantF_no rfl rfl rfl hq21) ?_
                refine TF.skip rfl (wantF_no rfl rfl rfl hq21) ?_
                refine TF.skip rfl (wantF_no rfl rfl rfl hq21) ?_
                refine TF.skip rfl (wantF_undef rfl rfl rfl) ?_
                refine TF.skip rfl (wantF_undef rfl rfl rfl) ?_
                refine TF.skip rfl (wantF_undef rfl rfl rfl) ?_
                refine TF.skip rfl (wantF_undef rfl rfl rfl) ?_
                refine TF.skip rfl (wantF_undef rfl rfl rfl) ?_
                refine TF.skip rfl (wantF_undef rfl rfl rfl) ?_
                refine TF.skip rfl (wantF_undef rfl rfl rfl) ?_
                refine TF.skip rfl (wantF_undef rfl rfl rfl) ?_
                refine TF.skip rfl (wantF_undef rfl rfl rfl) ?_
                refine TF.skip rfl (wantF_no rfl rfl rfl hq21) ?_
                refine TF.u (v := (.bool _)) rfl rfl (pr_pickF rfl hq21 rfl) ?_
                refine TF.nil (nx_then ?_)
                refine cw_condF (t := _) rfl rfl rfl ?_
                refine cw_skip (nx_block (nx_then ?_))
                -- region 5 ref.go:55
                refine cw_region (clf [.U, .U, .U]) [0, 1, 2] rfl (by kernel_rfl) (by decide) ?_
                refine TF.u (v := (.int .i64 _)) rfl rfl (pr_move rfl) ?_
                refine TF.u (v := (.int .i64 _)) rfl rfl (pr_add rfl rfl (IntWalk.i64_in _ (by omega))) ?_
                refine TF.u (v := (.int .i64 _)) rfl rfl (pr_assign rfl) ?_
                refine TF.nil (nx_loop (m' := 8 - (i + 1)) (by omega) ?_)
                exact ⟨_, i + 1, rfl, (cutS (cutS (cutS (cutS (cutS (cutS rfl rfl) rfl) rfl) rfl) rfl) rfl), H, by omega, hB_.trans (busyA_no ho18 (by first | exact .inl (by assumption) | exact .inr ⟨by assumption, by assumption⟩))⟩
            ·
              have hp17 := dF hq17
              refine cw_exit (ex_then (ex_then (ex_here (nx_then ?_))))
              refine cw_seq ?_
              -- region 8 ref.go:60
              refine cw_region (clf [.U, .U, .U, .X, .U, .U, .X, .X, .U, .U, .U, .U, .U]) [0, 1, 2, 3, 4, 5, 6, 7, 8, 9, 10, 11, 12] rfl (by kernel_rfl) (by decide) ?_
              have hbz : busyS s n id = false := hB_.trans (busyA_end (by rw [ok.ar]; omega))
              obtain ⟨k, x, rfl, hk, hx, hxl, hxe⟩ := ok.pl_at h123.2.1
              obtain ⟨j, a_, rfl, hj, ha_, hae, ham⟩ := ok.ar_at h123.1
              obtain ⟨mk, rfl⟩ := Int.eq_ofNat_of_zero_le (wholeP_iff.1 h123.2.2.2).1
              obtain ⟨_, hmk, _⟩ := wholeP_iff.1 h123.2.2.2
              have hr := h123.2.2.1
              have him := imageS_len (id := k) okp.len hr
              refine TF.u (v := (.pointer (some ⟨_, 0, none⟩))) rfl rfl (pr_move rfl) ?_
              refine TF.u (v := (.pointer (some _))) rfl rfl (pr_nil rfl) ?_
              refine TF.u (v := (.pointer (some ⟨_, 0, none⟩))) rfl rfl (pr_field (o' := 0) Try.underlying92 rfl (Try.ty87.s) (by decide) rfl rfl) ?_
              refine TF.load (v := (.slice A n_ c)) rfl rfl (wantF_none rfl) Try.underlying87 rfl rfl ((H.blk (k := 1) rfl).at_ rfl) ?_
              refine TF.u (v := (.int .i64 _)) rfl rfl (pr_move rfl) ?_
              refine TF.idx (H.rd (k := 0) rfl) rfl rfl (wantF_none rfl) Try.underlying87 (Try.ty9.s) rfl rfl (by omega) (by omega) ?_
              intro p_ hc_
              replace hc_ : World.cell? _ p_ = some (T x) := (by have h_ := hc_ 0 (T x) (by decide) (by simpa using str_at hx); rwa [add_zero] at h_)
              refine TF.load (v := (T x)) rfl rfl (wantF_none rfl) Try.underlying9 rfl rfl hc_ ?_
              refine TF.call (args := [(T x)]) Try.fn50 rfl rfl (wantF_none rfl) rfl (rstamp_ok _ _) ?_
              rintro e_ w ⟨rfl, hb26⟩
              refine ⟨_, rfl, ?_⟩
              replace H := H.below hb26
              refine TF.u (v := (.tuple _)) rfl rfl (pr_move rfl) ?_
              refine TF.u (v := (.int .u64 _)) rfl rfl (pr_extract (vs := _) rfl rfl) ?_
              refine TF.u (v := (.bool _)) rfl rfl (pr_extract (vs := _) rfl rfl) ?_
              refine TF.u (v := (.int .u64 _)) rfl rfl (pr_assign rfl) ?_
              refine TF.u (v := (.bool _)) rfl rfl (pr_assign rfl) ?_
              refine TF.nil (nx_then ?_)
              refine cw_seq ?_
              refine cw_seq ?_
              -- region 9 ref.go:61
              refine cw_region (clf [.U, .X, .U, .U]) [0, 1, 2, 3] rfl (by kernel_rfl) (by decide) ?_
              refine TF.u (v := (.pointer (some ⟨_, 0, none⟩))) rfl rfl (pr_field (o' := 0) Try.underlying27 rfl (Try.ty22.s) (by decide) rfl rfl) ?_
              refine TF.load (v := (.int .u64 (p.lsn : Int))) rfl rfl (wantF_none rfl) Try.underlying22 rfl rfl ((H.blk (k := 2) rfl).at_ rfl) ?_
              refine TF.u (v := (.int .u64 _)) rfl rfl (pr_move rfl) ?_
              refine TF.u (v := (.bool _)) rfl rfl (pr_leq rfl rfl) ?_
              refine TF.nil (nx_then ?_)
              refine cw_cond _ rfl rfl (fun hq29 => ?_) (fun hq29 => ?_)
              ·
                have hp29 := dT hq29
                refine cw_seq ?_
                -- region 10 ref.go:62
                refine cw_region (clf [.U]) [0] rfl (by kernel_rfl) (by decide) ?_
                refine TF.u (v := (.int .i64 _)) rfl rfl (pr_assign rfl) ?_
                refine TF.nil (nx_then ?_)
                refine cw_ret (rt_then (fin1 (v := (.int .i64 _)) Try.results37 rfl rfl ?_))
                rw [rWrite_l h123 hbz (by rw [hxe]; omega)]
                refine ⟨rfl, Sat.toUpd (k := 0) (L := [_]) (Sat.ex ((A : Option Addr), n_, c) (H.two (i := 0) (j := 0) rfl rfl).sep) rfl, ok⟩
              ·
                have hp29 := dF hq29
                refine cw_skip (nx_then ?_)
                refine cw_seq ?_
                -- region 11 ref.go:64
                refine cw_region (clf [.U, .X, .X, .U]) [0, 1, 2, 3] rfl (by kernel_rfl) (by decide) ?_
                refine TF.u (v := (.int .i64 _)) rfl rfl (pr_move rfl) ?_
                refine TF.loadE (cs' := pgV p) rfl rfl (wantF_none rfl) (Try.ty27.s) rfl rfl (H.blk (k := 2) rfl) (pgV_len okp.len) (pgV_all okp.len) ?_
                refine TF.call (args := [(.int .i64 _), (.agg ⟨pgV p⟩)]) Try.fn36 rfl rfl (wantF_none rfl) rfl (rimage_ok _ p okp _ (by omega) (by assumption)) ?_
                rintro e_ w ⟨rfl, hb30⟩
                refine ⟨_, rfl, ?_⟩
                replace H := H.below hb30
                refine TF.u (v := (T _)) rfl rfl (pr_assign rfl) ?_
                refine TF.nil (nx_then ?_)
                refine cw_seq ?_
                -- region 12 ref.go:65
                refine cw_drawS H Try.wide_ (clf [.U, .U, .U, .R, .U, .U, .U, .U, .R, .U, .U, .R, .U, .U, .U, .P, .U, .X]) [0, 1, 2, 3, 4, 5, 6, 7, 8, 9, 10, 11, 12, 13, 14, 15, 16, 17] (by kernel_rfl) (by kernel_rfl) ?_
                clear H
                intro w hbr H hB
                obtain ⟨gb, rfl⟩ := H.ownSome (k := 0) rfl (by omega)
                refine TF.u (v := (.pointer (some ⟨_, 0, none⟩))) rfl rfl (pr_move rfl) ?_
                refine TF.u (v := (.pointer (some _))) rfl rfl (pr_nil rfl) ?_
                refine TF.u (v := (.pointer (some ⟨_, 0, none⟩))) rfl rfl (pr_field (o' := 0) Try.underlying92 rfl (Try.ty87.s) (by decide) rfl rfl) ?_
                refine TF.loadr (v := (.slice (some ⟨gb, 0, none⟩) n_ c)) rfl rfl (wantF_none rfl) Try.underlying87 rfl rfl ((H.blk (k := 1) rfl).atB rfl) ?_
                refine TF.u (v := (.int .i64 _)) rfl rfl (pr_move rfl) ?_
                refine TF.u (v := (.pointer (some ⟨_, 0, none⟩))) rfl rfl (pr_move rfl) ?_
                refine TF.u (v := (.pointer (some _))) rfl rfl (pr_nil rfl) ?_
                refine TF.u (v := (.pointer (some ⟨_, 0, none⟩))) rfl rfl (pr_field (o' := 0) Try.underlying92 rfl (Try.ty87.s) (by decide) rfl rfl) ?_
                refine TF.loadr (v := (.slice (some ⟨gb, 0, none⟩) n_ c)) rfl rfl (wantF_none rfl) Try.underlying87 rfl rfl ((H.blk (k := 1) rfl).atB rfl) ?_
                refine TF.u (v := (.int .i64 _)) rfl rfl (pr_move rfl) ?_
                refine TF.idx (H.rd (k := 0) rfl) rfl rfl (wantF_none rfl) Try.underlying87 (Try.ty9.s) rfl rfl (by omega) (by omega) ?_
                intro p_ hc_
                replace hc_ : World.cell? _ p_ = some (T x) := (by have h_ := hc_ 0 (T x) (by decide) (by simpa using str_at hx); rwa [add_zero] at h_)
                refine TF.loadr (v := (T x)) rfl rfl (wantF_none rfl) Try.underlying9 rfl rfl (cellB hc_) ?_
                refine TF.u (v := (T _)) rfl rfl (pr_move rfl) ?_
                refine TF.u (v := (.int .i64 _)) rfl rfl (pr_move rfl) ?_
                refine TF.u (v := (.int .i64 _)) rfl rfl (pr_quo rfl rfl (by omega) (show _ = ((mk / 4 : Nat) : Int) from IntWalk.i64_in _ (by have : ((mk : Int).tdiv 4) = ((mk / 4 : Nat) : Int) := rfl; omega))) ?_
                refine TF.callp (args := [(T x), (T _), (.int .i64 _)]) Try.fn51 rfl rfl (wantF_none rfl) rfl (rlay_ok _ _ _ _ hxl him (by omega)) ?_
                rintro e_ w ⟨rfl, hb31⟩
                refine ⟨_, rfl, fun x => Below w.heap.size w x, fun x hx => below_trans (below_trans hB hb31) hx, Below.refl _ _, ?_⟩
                replace hB := Below.refl w.heap.size w
                replace H := H.below hb31
                refine TF.u (v := (.pointer (some ⟨gb, k, none⟩))) rfl rfl (pr_idxO (b := gb) (o' := k) Try.underlying87 (Try.ty9.s) rfl rfl (by omega) (by omega) (by simp)) ?_
                refine TF.storeO (v := (T _)) (q := 0) H rfl rfl rfl (wantF_none rfl) (Try.ty9.s) rfl rfl rfl (by omega) ?_
                clear H
                intro w ho34 H
                replace H : Sat _ _ _ [_, _, _] := H
                rw [str_set] at H
                clear hB
                refine TF.nil (nx_then ?_)
                refine cw_seq ?_
                refine cw_seq ?_
                -- region 13 ref.go:66
                refine cw_region (clf [.U, .U]) [0, 1] rfl (by kernel_rfl) (by decide) ?_
                refine TF.u (v := (.int .i64 _)) rfl rfl (pr_move rfl) ?_
                refine TF.u (v := (.bool _)) rfl rfl (pr_eql rfl rfl) ?_
                refine TF.nil (nx_then ?_)
                refine cw_cond _ rfl rfl (fun hq36 => ?_) (fun hq36 => ?_)
                ·
                  have hp36 := dT hq36
                  refine cw_seq ?_
                  -- region 14 ref.go:67
                  refine cw_region (clf [.U, .U, .U, .U, .U, .U, .X]) [0, 1, 2, 3, 4, 5, 6] rfl (by kernel_rfl) (by decide) ?_
                  refine TF.u (v := (.pointer (some ⟨_, 0, none⟩))) rfl rfl (pr_move rfl) ?_
                  refine TF.u (v := (.int .i64 _)) rfl rfl (pr_move rfl) ?_
                  refine TF.u (v := (.agg ⟨rnV noNd⟩)) rfl rfl (pr_build (cs := rnV noNd) Try.bld89 rfl rfl) ?_
                  refine TF.u (v := (.pointer (some _))) rfl rfl (pr_nil rfl) ?_
                  refine TF.u (v := (.pointer (some ⟨_, 1, none⟩))) rfl rfl (pr_field (o' := 1) Try.underlying92 rfl (Try.ty90.s) (by decide) rfl rfl) ?_
                  obtain ⟨o37, ho37⟩ : ∃ o, s.ar[j]? = some o := ⟨_, List.getElem?_eq_getElem (by rw [ok.ar]; omega)⟩
                  refine TF.u (v := (.pointer (some ⟨_, _, none⟩))) rfl rfl (pr_idxA Try.underlying90 (Try.ty89.s) rfl rfl (by omega) (by omega)) ?_
                  refine TF.storeN (q := 1) (cs' := rsbV (SB.mk (some ⟨gb, 0, none⟩) n_ c (s.ar.set j noNd))) H rfl rfl rfl (wantF_none rfl) (Try.ty89.s) rfl rfl rfl (rnV_one _) (by rw [rsbV_len ok.ar]; omega) (rsb_set noNd (by rw [show _ = 8 from ok.ar]; omega)) ?_
                  clear H
                  intro w ho38 H
                  replace H : Sat _ _ _ [_, _, _] := H
                  refine TF.nil (nx_then ?_)
                  refine cw_seq ?_
                  -- region 15 ref.go:68
                  refine cw_region (clf [.U]) [0] rfl (by kernel_rfl) (by decide) ?_
                  refine TF.u (v := (.int .i64 _)) rfl rfl (pr_assign rfl) ?_
                  refine TF.nil (nx_then ?_)
                  refine cw_ret (rt_then (fin1 (v := (.int .i64 _)) Try.results37 rfl rfl ?_))
                  have hok9 := rWrite_ok (s := s) ok (n := (j : Int)) (id := (k : Int)) (p := p) okp (mk : Int)
                  have hW : rWrite s (j : Int) (k : Int) p (mk : Int) = _ := rWrite_yes h123 hbz (by rw [hxe]; omega)
                  rw [if_pos (by omega), hxe] at hW
                  simp only [Int.toNat_natCast] at hW
                  rw [hW] at hok9 ⊢
                  refine ⟨rfl, Sat.toUpd (k := 0) (L := [_]) (Sat.ex (((some ⟨gb, 0, none⟩) : Option Addr), n_, c) (H.two (i := 0) (j := 0) rfl rfl).sep) rfl, hok9⟩
                ·
                  have hp36 := dF hq36
                  refine cw_skip (nx_then ?_)
                  refine cw_seq ?_
                  -- region 16 ref.go:70
                  refine cw_region (clf [.U, .U, .U, .U, .U, .U, .U, .U, .X]) [0, 1, 2, 3, 4, 5, 6, 7, 8] rfl (by kernel_rfl) (by decide) ?_
                  refine TF.u (v := (.pointer (some ⟨_, 0, none⟩))) rfl rfl (pr_move rfl) ?_
                  refine TF.u (v := (.int .i64 _)) rfl rfl (pr_move rfl) ?_
                  refine TF.u (v := (T _)) rfl rfl (pr_move rfl) ?_
                  refine TF.u (v := (.int .i64 _)) rfl rfl (pr_move rfl) ?_
                  refine TF.u (v := (.agg ⟨rnV (AR.mk (imageS k p) true (k : Int))⟩)) rfl rfl (pr_build (cs := rnV (AR.mk (imageS k p) true (k : Int))) Try.bld89 rfl rfl) ?_
                  refine TF.u (v := (.pointer (some _))) rfl rfl (pr_nil rfl) ?_
                  refine TF.u (v := (.pointer (some ⟨_, 1, none⟩))) rfl rfl (pr_field (o' := 1) Try.underlying92 rfl (Try.ty90.s) (by decide) rfl rfl) ?_
                  obtain ⟨o39, ho39⟩ : ∃ o, s.ar[j]? = some o := ⟨_, List.getElem?_eq_getElem (by rw [ok.ar]; omega)⟩
                  refine TF.u (v := (.pointer (some ⟨_, _, none⟩))) rfl rfl (pr_idxA Try.underlying90 (Try.ty89.s) rfl rfl (by omega) (by omega)) ?_
                  refine TF.storeN (q := 1) (cs' := rsbV (SB.mk (some ⟨gb, 0, none⟩) n_ c (s.ar.set j (AR.mk (imageS k p) true (k : Int))))) H rfl rfl rfl (wantF_none rfl) (Try.ty89.s) rfl rfl rfl (rnV_one _) (by rw [rsbV_len ok.ar]; omega) (rsb_set (AR.mk (imageS k p) true (k : Int)) (by rw [show _ = 8 from ok.ar]; omega)) ?_
                  clear H
                  intro w ho40 H
                  replace H : Sat _ _ _ [_, _, _] := H
                  refine TF.nil (nx_then ?_)
                  refine cw_seq ?_
                  -- region 17 ref.go:71
                  refine cw_region (clf [.U]) [0] rfl (by kernel_rfl) (by decide) ?_
                  refine TF.u (v := (.int .i64 _)) rfl rfl (pr_assign rfl) ?_
                  refine TF.nil (nx_then ?_)
                  refine cw_ret (fin1 (v := (.int .i64 _)) Try.results37 rfl rfl ?_)
                  have hok9 := rWrite_ok (s := s) ok (n := (j : Int)) (id := (k : Int)) (p := p) okp (mk : Int)
                  have hW : rWrite s (j : Int) (k : Int) p (mk : Int) = _ := rWrite_yes h123 hbz (by rw [hxe]; omega)
                  rw [if_neg (by omega), hxe] at hW
                  simp only [Int.toNat_natCast] at hW
                  rw [hW] at hok9 ⊢
                  refine ⟨rfl, Sat.toUpd (k := 0) (L := [_]) (Sat.ex (((some ⟨gb, 0, none⟩) : Option Addr), n_, c) (H.two (i := 0) (j := 0) rfl rfl).sep) rfl, hok9⟩

theorem rmend_ok (rb : Nat) (s : SS) (F : List Nat) (n m : Int) (w0 : World) (hF : (cRStore 9 92 rb (s)).p w0 F) (ok : ROk s) (hn1 : -9223372036854775808 ≤ n) (hn2 : n ≤ 9223372036854775807) (hm1 : -9223372036854775808 ≤ m) (hm2 : m ≤ 9223372036854775807) :
    Calls Try.prog 38 #[.pointer (some ⟨rb, 0, none⟩), .int .i64 n, .int .i64 m] w0 fun e w => e = .returned (.int .i64 (rMend s n m).2) ∧ Upd (cRStore 9 92 rb ((rMend s n m).1)) F w0 w ∧ ROk ((rMend s n m).1) := by
  refine enter (args := [.pointer (some ⟨rb, 0, none⟩), .int .i64 n, .int .i64 m]) Try.func38 rfl Try.ntmps38 rfl ?_
  have H := Sat.start1 hF
  have hpl2 := ok.pl2
  refine cw_seq ?_
  -- region 0 ref.go:75
  refine cw_region (clf [.U]) [0] rfl (by kernel_rfl) (by decide) ?_
  refine TF.u (v := (.int .i64 _)) rfl rfl (pr_assign rfl) ?_
  refine TF.nil (nx_then ?_)
  refine cw_seq ?_
  refine cw_seq ?_
  -- region 1 ref.go:76
  refine cw_region (clf [.U, .X, .U, .U, .U, .U, .U, .U, .U, .U, .U]) [0, 1, 2, 3, 4, 5, 6, 7, 8, 9, 10] rfl (by kernel_rfl) (by decide) ?_
  refine TF.u (v := (.int .i64 _)) rfl rfl (pr_move rfl) ?_
  refine TF.call (args := [(.int .i64 _)]) Try.fn48 rfl rfl (wantF_none rfl) rfl (rnode_ok _ _ (by omega) (by omega)) ?_
  rintro e_ w ⟨rfl, hb1⟩
  refine ⟨_, rfl, ?_⟩
  replace H := H.below hb1
  refine TF.u (v := (.bool _)) rfl rfl (pr_not rfl) ?_
  refine TF.u (v := (.bool _)) rfl rfl (pr_move rfl) ?_
  refine TF.split (dj := 11) rfl (fun hq3 => ?_) (fun hq3 => ?_)
  ·
    have hp3 := (nT hq3)
    refine TF.skip rfl (wantF_no rfl rfl rfl (bnF (nT hq3))) ?_
    refine TF.skip rfl (wantF_no rfl rfl rfl (bnF (nT hq3))) ?_
    refine TF.u (v := (.bool _)) rfl rfl (pr_pickT rfl (bnF (nT hq3)) rfl) ?_
    refine TF.u (v := (.bool _)) rfl rfl (pr_move rfl) ?_
    refine TF.skip rfl (wantF_no rfl rfl rfl rfl) ?_
    refine TF.skip rfl (wantF_no rfl rfl rfl rfl) ?_
    refine TF.u (v := (.bool _)) rfl rfl (pr_pickT rfl rfl rfl) ?_
    refine TF.nil (nx_then ?_)
    refine cw_condT (t := _) rfl rfl rfl ?_
    refine cw_seq ?_
    -- region 2 ref.go:77
    refine cw_region (clf [.U]) [0] rfl (by kernel_rfl) (by decide) ?_
    refine TF.u (v := (.int .i64 _)) rfl rfl (pr_assign rfl) ?_
    refine TF.nil (nx_then ?_)
    refine cw_ret (rt_then (fin1 (v := (.int .i64 _)) Try.results38 rfl rfl ?_))
    rw [rMend_1 (by rintro ⟨h1_, h2_, h3_⟩; first | (simp_all; done) | omega)]
    have H9 := H.only1 (i := 0) rfl
    exact ⟨rfl, H9.toUpd (k := 0) rfl, ok⟩
  ·
    have hp3 := (nF hq3)
    refine TF.ug (v := (.int .i64 _)) rfl rfl (wantF_yes rfl rfl rfl (bnT (nF hq3))) (pr_move rfl) ?_
    refine TF.ug (v := (.bool _)) rfl rfl (wantF_yes rfl rfl rfl (bnT (nF hq3))) (pr_lss rfl rfl) ?_
    refine TF.u (v := (.bool _)) rfl rfl (pr_pickF rfl (bnT (nF hq3)) rfl) ?_
    refine TF.u (v := (.bool _)) rfl rfl (pr_move rfl) ?_
    refine TF.split (dj := 15) rfl (fun hq5 => ?_) (fun hq5 => ?_)
    ·
      have hp5 := dT hq5
      refine TF.skip rfl (wantF_no rfl rfl rfl hq5) ?_
      refine TF.skip rfl (wantF_no rfl rfl rfl hq5) ?_
      refine TF.u (v := (.bool _)) rfl rfl (pr_pickT rfl hq5 rfl) ?_
      refine TF.nil (nx_then ?_)
      refine cw_condT (t := _) rfl rfl rfl ?_
      refine cw_seq ?_
      -- region 2 ref.go:77
      refine cw_region (clf [.U]) [0] rfl (by kernel_rfl) (by decide) ?_
      refine TF.u (v := (.int .i64 _)) rfl rfl (pr_assign rfl) ?_
      refine TF.nil (nx_then ?_)
      refine cw_ret (rt_then (fin1 (v := (.int .i64 _)) Try.results38 rfl rfl ?_))
      rw [rMend_1 (by rintro ⟨h1_, h2_, h3_⟩; first | (simp_all; done) | omega)]
      have H9 := H.only1 (i := 0) rfl
      exact ⟨rfl, H9.toUpd (k := 0) rfl, ok⟩
    ·
      have hp5 := dF hq5
      refine TF.ug (v := (.int .i64 _)) rfl rfl (wantF_yes rfl rfl rfl hq5) (pr_move rfl) ?_
      refine TF.ug (v := (.bool _)) rfl rfl (wantF_yes rfl rfl rfl hq5) (pr_gtr rfl rfl) ?_
      refine TF.u (v := (.bool _)) rfl rfl (pr_pickF rfl hq5 rfl) ?_
      refine TF.nil (nx_then ?_)
      refine cw_cond _ rfl rfl (fun hq7 => ?_) (fun hq7 => ?_)
      ·
        have hp7 := dT hq7
        refine cw_seq ?_
        -- region 2 ref.go:77
        refine cw_region (clf [.U]) [0] rfl (by kernel_rfl) (by decide) ?_
        refine TF.u (v := (.int .i64 _)) rfl rfl (pr_assign rfl) ?_
        refine TF.nil (nx_then ?_)
        refine cw_ret (rt_then (fin1 (v := (.int .i64 _)) Try.results38 rfl rfl ?_))
        rw [rMend_1 (by rintro ⟨h1_, h2_, h3_⟩; first | (simp_all; done) | omega)]
        have H9 := H.only1 (i := 0) rfl
        exact ⟨rfl, H9.toUpd (k := 0) rfl, ok⟩
      ·
        have hp7 := dF hq7
        refine cw_skip (nx_then ?_)
        refine cw_seq ?_
        -- region 3 ref.go:79
        refine cw_region (clf [.U, .U, .U, .U, .U, .X, .X, .X]) [0, 1, 2, 3, 4, 5, 6, 7] rfl (by kernel_rfl) (by decide) ?_
        have h123 : nodeP n = true ∧ 0 ≤ m ∧ m ≤ 3 := ⟨by assumption, by omega, by omega⟩
        obtain ⟨j, a_, rfl, hj, ha_, hae, ham⟩ := ok.ar_at h123.1
        obtain ⟨mk, rfl⟩ := Int.eq_ofNat_of_zero_le h123.2.1
        obtain ⟨_, _, hmk⟩ := h123
        have h123 : nodeP (j : Int) = true ∧ 0 ≤ (mk : Int) ∧ (mk : Int) ≤ 3 := ⟨by assumption, by omega, by omega⟩
        replace H := H.front 0 rfl
        obtain ⟨⟨A, n_, c⟩, H⟩ := H.unex
        replace H := H.unsep
        replace H : Sat F w0 _ (cOwn 9 1 A n_ c (s.pl.flatMap strC) :: cBlk rb 92 (rsbV (SB.mk A n_ c s.ar)) :: _) := H
        replace H : Sat _ _ _ [_, _] := H
        have hn_ : s.pl.length = n_ := rrow_len (H.rd (k := 0) rfl)
        refine TF.u (v := (.pointer (some ⟨_, 0, none⟩))) rfl rfl (pr_move rfl) ?_
        refine TF.u (v := (.int .i64 _)) rfl rfl (pr_move rfl) ?_
        refine TF.u (v := (.pointer (some _))) rfl rfl (pr_nil rfl) ?_
        refine TF.u (v := (.pointer (some ⟨_, 1, none⟩))) rfl rfl (pr_field (o' := 1) Try.underlying92 rfl (Try.ty90.s) (by decide) rfl rfl) ?_
        obtain ⟨o8, ho8⟩ : ∃ o, s.ar[j]? = some o := ⟨_, List.getElem?_eq_getElem (by rw [ok.ar]; omega)⟩
        obtain rfl : o8 = a_ := Option.some.inj (ho8.symm.trans ha_)
        refine TF.u (v := (.pointer (some ⟨_, _, none⟩))) rfl rfl (pr_idxA Try.underlying90 (Try.ty89.s) rfl rfl (by omega) (by omega)) ?_
        refine TF.loadE (cs' := rnV o8) rfl rfl (wantF_none rfl) (Try.ty89.s) rfl rfl (H.blk (k := 1) rfl) rfl (rsb_node ho8) ?_
        refine TF.alloc H rfl (Cx.xx rfl) (wantF_none rfl) (Try.ty89) rfl ?_
        clear H
        intro bk9 w hltbk9 hb10 H
        replace H : Sat _ _ _ (cBlk _ _ (rnV noNd) :: _) := H
        replace H : Sat _ _ _ [_, _, _] := H
        refine TF.storeN (q := 0) (cs' := rnV o8) H rfl rfl rfl (wantF_none rfl) (Try.ty89.s) rfl rfl rfl (rnV_one _) (by have h_ : (rnV noNd).length = 3 := rfl; omega) (store_all rfl) ?_
        clear H
        intro w ho11 H
        replace H : Sat _ _ _ [_, _, _] := H
        refine TF.nil (nx_then ?_)
        refine cw_seq ?_
        refine cw_seq ?_
        -- region 4 ref.go:80
        refine cw_drawS H Try.wide_ (clf [.U, .R, .U, .U, .U, .U, .R, .U, .R, .U, .R, .P, .U]) [0, 1, 2, 3, 4, 5, 6, 7, 8, 9, 10, 11, 12] (by kernel_rfl) (by kernel_rfl) ?_
        clear H
        intro w hbr H hB
        refine TF.u (v := (.pointer (some ⟨_, 1, none⟩))) rfl rfl (pr_field (o' := 1) Try.underlying89 rfl (Try.ty4.s) (by decide) rfl rfl) ?_
        refine TF.loadr (v := (.bool o8.out)) rfl rfl (wantF_none rfl) Try.underlying4 rfl rfl ((H.blk (k := 0) rfl).atB rfl) ?_
        refine TF.u (v := (.bool o8.out)) rfl rfl (pr_move rfl) ?_
        refine TF.split (dj := 27) rfl (fun hq14 => ?_) (fun hq14 => ?_)
        ·
          have hp14 := hq14
          refine TF.ug (v := (.pointer (some ⟨_, 0, none⟩))) rfl rfl (wantF_yes rfl rfl rfl hq14) (pr_move rfl) ?_
          refine TF.ug (v := (.pointer (some _))) rfl rfl (wantF_yes rfl rfl rfl hq14) (pr_nil rfl) ?_
          refine TF.ug (v := (.pointer (some ⟨_, 0, none⟩))) rfl rfl (wantF_yes rfl rfl rfl hq14) (pr_field (o' := 0) Try.underlying92 rfl (Try.ty87.s) (by decide) rfl rfl) ?_
          refine TF.loadr (v := (.slice A n_ c)) rfl rfl (wantF_yes rfl rfl rfl hq14) Try.underlying87 rfl rfl ((H.blk (k := 2) rfl).atB rfl) ?_
          refine TF.ug (v := (.pointer (some ⟨_, 2, none⟩))) rfl rfl (wantF_yes rfl rfl rfl hq14) (pr_field (o' := 2) Try.underlying89 rfl (Try.ty3.s) (by decide) rfl rfl) ?_
          refine TF.loadr (v := (.int .i64 o8.id)) rfl rfl (wantF_yes rfl rfl rfl hq14) Try.underlying3 rfl rfl ((H.blk (k := 0) rfl).atB rfl) ?_
          obtain ⟨x, hx, hxl, hxe, hi0, hi1, hk, him⟩ := ok.pl_id ham (by assumption)
          refine TF.idx (H.rd (k := 1) rfl) rfl rfl (wantF_yes rfl rfl rfl hq14) Try.underlying87 (Try.ty9.s) rfl rfl (by omega) (by omega) ?_
          intro p_ hc_
          replace hc_ : World.cell? _ p_ = some (T x) := (by have h_ := hc_ 0 (T x) (by decide) (by simpa using str_at hx); rwa [add_zero] at h_)
          refine TF.loadr (v := (T x)) rfl rfl (wantF_yes rfl rfl rfl hq14) Try.underlying9 rfl rfl (cellB hc_) ?_
          refine TF.callp (args := [(T x)]) Try.fn52 rfl rfl (wantF_yes rfl rfl rfl hq14) rfl (rtorn_ok _ _) ?_
          rintro e_ w ⟨rfl, hb15⟩
          refine ⟨_, rfl, fun x => Below w.heap.size w x, fun x hx => below_trans (below_trans hB hb15) hx, Below.refl _ _, ?_⟩
          replace hB := Below.refl w.heap.size w
          replace H := H.below hb15
          refine TF.u (v := (.bool _)) rfl rfl (pr_pickT rfl hq14 rfl) ?_
          clear hB
          refine TF.nil (nx_then ?_)
          refine cw_cond _ rfl rfl (fun hq17 => ?_) (fun hq17 => ?_)
          ·
            have hp17 := hq17
            refine cw_seq ?_
            -- region 5 ref.go:81
            refine cw_drawS H Try.wide_ (clf [.U, .U, .U, .R, .U, .R, .U, .U, .U, .R, .U, .R, .U, .R, .U, .R, .U, .P, .U, .X]) [0, 1, 2, 3, 4, 5, 6, 7, 8, 9, 10, 11, 12, 13, 14, 15, 16, 17, 18, 19] (by kernel_rfl) (by kernel_rfl) ?_
            clear H
            intro w hbr H hB
            obtain ⟨gb, rfl⟩ := H.ownSome (k := 1) rfl (by omega)
            refine TF.u (v := (.pointer (some ⟨_, 0, none⟩))) rfl rfl (pr_move rfl) ?_
            refine TF.u (v := (.pointer (some _))) rfl rfl (pr_nil rfl) ?_
            refine TF.u (v := (.pointer (some ⟨_, 0, none⟩))) rfl rfl (pr_field (o' := 0) Try.underlying92 rfl (Try.ty87.s) (by decide) rfl rfl) ?_
            refine TF.loadr (v := (.slice (some ⟨gb, 0, none⟩) n_ c)) rfl rfl (wantF_none rfl) Try.underlying87 rfl rfl ((H.blk (k := 2) rfl).atB rfl) ?_
            refine TF.u (v := (.pointer (some ⟨_, 2, none⟩))) rfl rfl (pr_field (o' := 2) Try.underlying89 rfl (Try.ty3.s) (by decide) rfl rfl) ?_
            refine TF.loadr (v := (.int .i64 o8.id)) rfl rfl (wantF_none rfl) Try.underlying3 rfl rfl ((H.blk (k := 0) rfl).atB rfl) ?_
            refine TF.u (v := (.pointer (some ⟨_, 0, none⟩))) rfl rfl (pr_move rfl) ?_
            refine TF.u (v := (.pointer (some _))) rfl rfl (pr_nil rfl) ?_
            refine TF.u (v := (.pointer (some ⟨_, 0, none⟩))) rfl rfl (pr_field (o' := 0) Try.underlying92 rfl (Try.ty87.s) (by decide) rfl rfl) ?_
            refine TF.loadr (v := (.slice (some ⟨gb, 0, none⟩) n_ c)) rfl rfl (wantF_none rfl) Try.underlying87 rfl rfl ((H.blk (k := 2) rfl).atB rfl) ?_
            refine TF.u (v := (.pointer (some ⟨_, 2, none⟩))) rfl rfl (pr_field (o' := 2) Try.underlying89 rfl (Try.ty3.s) (by decide) rfl rfl) ?_
            refine TF.loadr (v := (.int .i64 o8.id)) rfl rfl (wantF_none rfl) Try.underlying3 rfl rfl ((H.blk (k := 0) rfl).atB rfl) ?_
            refine TF.idx (H.rd (k := 1) rfl) rfl rfl (wantF_none rfl) Try.underlying87 (Try.ty9.s) rfl rfl (by omega) (by omega) ?_
            intro p_ hc_
            replace hc_ : World.cell? _ p_ = some (T x) := (by have h_ := hc_ 0 (T x) (by decide) (by simpa using str_at hx); rwa [add_zero] at h_)
            refine TF.loadr (v := (T x)) rfl rfl (wantF_none rfl) Try.underlying9 rfl rfl (cellB hc_) ?_
            refine TF.u (v := (.pointer (some ⟨_, 0, none⟩))) rfl rfl (pr_field (o' := 0) Try.underlying89 rfl (Try.ty9.s) (by decide) rfl rfl) ?_
            refine TF.loadr (v := (T o8.img)) rfl rfl (wantF_none rfl) Try.underlying9 rfl rfl ((H.blk (k := 0) rfl).atB rfl) ?_
            refine TF.u (v := (.int .i64 _)) rfl rfl (pr_move rfl) ?_
            refine TF.callp (args := [(T x), (T o8.img), (.int .i64 _)]) Try.fn51 rfl rfl (wantF_none rfl) rfl (rlay_ok _ _ _ _ hxl him (by omega)) ?_
            rintro e_ w ⟨rfl, hb18⟩
            refine ⟨_, rfl, fun x => Below w.heap.size w x, fun x hx => below_trans (below_trans hB hb18) hx, Below.refl _ _, ?_⟩
            replace hB := Below.refl w.heap.size w
            replace H := H.below hb18
            refine TF.u (v := (.pointer (some ⟨gb, o8.id.toNat, none⟩))) rfl rfl (pr_idxO (b := gb) (o' := o8.id.toNat) Try.underlying87 (Try.ty9.s) rfl rfl (by omega) (by omega) (by simp)) ?_
            refine TF.storeO (v := (T _)) (q := 1) H rfl rfl rfl (wantF_none rfl) (Try.ty9.s) rfl rfl rfl (by omega) ?_
            clear H
            intro w ho21 H
            replace H : Sat _ _ _ [_, _, _] := H
            rw [str_set] at H
            clear hB
            refine TF.nil (nx_then ?_)
            refine cw_seq ?_
            -- region 6 ref.go:82
            refine cw_region (clf [.U, .U]) [0, 1] rfl (by kernel_rfl) (by decide) ?_
            refine TF.u (v := (.int .i64 _)) rfl rfl (pr_move rfl) ?_
            refine TF.u (v := (.bool _)) rfl rfl (pr_neq rfl rfl) ?_
            refine TF.nil (nx_then ?_)
            refine cw_cond _ rfl rfl (fun hq23 => ?_) (fun hq23 => ?_)
            ·
              have hp23 := dF (nT hq23)
              refine cw_seq ?_
              -- region 7 ref.go:83
              refine cw_region (clf [.U]) [0] rfl (by kernel_rfl) (by decide) ?_
              refine TF.u (v := (.int .i64 _)) rfl rfl (pr_assign rfl) ?_
              refine TF.nil (nx_then ?_)
              refine cw_ret (rt_then (fin1 (v := (.int .i64 _)) Try.results38 rfl rfl ?_))
              have hok9 := rMend_ok (s := s) ok (j : Int) (mk : Int)
              have hW : rMend s (j : Int) (mk : Int) = _ := rMend_y h123 hae (by assumption) hxe (by assumption)
              rw [if_pos (by omega)] at hW
              simp only [Int.toNat_natCast] at hW
              rw [hW] at hok9 ⊢
              refine ⟨rfl, Sat.toUpd (k := 0) (L := [_]) (Sat.ex (((some ⟨gb, 0, none⟩) : Option Addr), n_, c) (H.two (i := 1) (j := 1) rfl rfl).sep) rfl, hok9⟩
            ·
              have hp23 := dT (nF hq23)
              refine cw_skip (nx_then ?_)
              refine cw_seq ?_
              -- region 8 ref.go:86
              refine cw_region (clf [.U, .U, .U, .U, .U, .U, .X]) [0, 1, 2, 3, 4, 5, 6] rfl (by kernel_rfl) (by decide) ?_
              refine TF.u (v := (.pointer (some ⟨_, 0, none⟩))) rfl rfl (pr_move rfl) ?_
              refine TF.u (v := (.int .i64 _)) rfl rfl (pr_move rfl) ?_
              refine TF.u (v := (.agg ⟨rnV noNd⟩)) rfl rfl (pr_build (cs := rnV noNd) Try.bld89 rfl rfl) ?_
              refine TF.u (v := (.pointer (some _))) rfl rfl (pr_nil rfl) ?_
              refine TF.u (v := (.pointer (some ⟨_, 1, none⟩))) rfl rfl (pr_field (o' := 1) Try.underlying92 rfl (Try.ty90.s) (by decide) rfl rfl) ?_
              refine TF.u (v := (.pointer (some ⟨_, _, none⟩))) rfl rfl (pr_idxA Try.underlying90 (Try.ty89.s) rfl rfl (by omega) (by omega)) ?_
              refine TF.storeN (q := 2) (cs' := rsbV (SB.mk (some ⟨gb, 0, none⟩) n_ c (s.ar.set j noNd))) H rfl rfl rfl (wantF_none rfl) (Try.ty89.s) rfl rfl rfl (rnV_one _) (by rw [rsbV_len ok.ar]; omega) (rsb_set noNd (by rw [show _ = 8 from ok.ar]; omega)) ?_
              clear H
              intro w ho24 H
              replace H : Sat _ _ _ [_, _, _] := H
              refine TF.nil (nx_then ?_)
              refine cw_seq ?_
              -- region 9 ref.go:87
              refine cw_region (clf [.U]) [0] rfl (by kernel_rfl) (by decide) ?_
              refine TF.u (v := (.int .i64 _)) rfl rfl (pr_assign rfl) ?_
              refine TF.nil (nx_then ?_)
              refine cw_ret (fin1 (v := (.int .i64 _)) Try.results38 rfl rfl ?_)
              have hok9 := rMend_ok (s := s) ok (j : Int) (mk : Int)
              have hW : rMend s (j : Int) (mk : Int) = _ := rMend_y h123 hae (by assumption) hxe (by assumption)
              rw [if_neg (by omega)] at hW
              simp only [Int.toNat_natCast] at hW
              rw [hW] at hok9 ⊢
              refine ⟨rfl, Sat.toUpd (k := 0) (L := [_]) (Sat.ex (((some ⟨gb, 0, none⟩) : Option Addr), n_, c) (H.two (i := 1) (j := 1) rfl rfl).sep) rfl, hok9⟩
          ·
            have hp17 := hq17
            refine cw_skip (nx_then ?_)
            refine cw_seq ?_
            -- region 8 ref.go:86
            refine cw_region (clf [.U, .U, .U, .U, .U, .U, .X]) [0, 1, 2, 3, 4, 5, 6] rfl (by kernel_rfl) (by decide) ?_
            refine TF.u (v := (.pointer (some ⟨_, 0, none⟩))) rfl rfl (pr_move rfl) ?_
            refine TF.u (v := (.int .i64 _)) rfl rfl (pr_move rfl) ?_
            refine TF.u (v := (.agg ⟨rnV noNd⟩)) rfl rfl (pr_build (cs := rnV noNd) Try.bld89 rfl rfl) ?_
            refine TF.u (v := (.pointer (some _))) rfl rfl (pr_nil rfl) ?_
            refine TF.u (v := (.pointer (some ⟨_, 1, none⟩))) rfl rfl (pr_field (o' := 1) Try.underlying92 rfl (Try.ty90.s) (by decide) rfl rfl) ?_
            refine TF.u (v := (.pointer (some ⟨_, _, none⟩))) rfl rfl (pr_idxA Try.underlying90 (Try.ty89.s) rfl rfl (by omega) (by omega)) ?_
            refine TF.storeN (q := 2) (cs' := rsbV (SB.mk A n_ c (s.ar.set j noNd))) H rfl rfl rfl (wantF_none rfl) (Try.ty89.s) rfl rfl rfl (rnV_one _) (by rw [rsbV_len ok.ar]; omega) (rsb_set noNd (by rw [show _ = 8 from ok.ar]; omega)) ?_
            clear H
            intro w ho25 H
            replace H : Sat _ _ _ [_, _, _] := H
            refine TF.nil (nx_then ?_)
            refine cw_seq ?_
            -- region 9 ref.go:87
            refine cw_region (clf [.U]) [0] rfl (by kernel_rfl) (by decide) ?_
            refine TF.u (v := (.int .i64 _)) rfl rfl (pr_assign rfl) ?_
            refine TF.nil (nx_then ?_)
            refine cw_ret (fin1 (v := (.int .i64 _)) Try.results38 rfl rfl ?_)
            have hok9 := rMend_ok (s := s) ok (j : Int) (mk : Int)
            have hW : rMend s (j : Int) (mk : Int) = _ := rMend_n h123 hae (by rintro ⟨h1_, h2_⟩; rw [hxe] at h2_; simp_all)
            simp only [Int.toNat_natCast] at hW
            rw [hW] at hok9 ⊢
            refine ⟨rfl, Sat.toUpd (k := 0) (L := [_]) (Sat.ex ((A : Option Addr), n_, c) (H.two (i := 1) (j := 1) rfl rfl).sep) rfl, hok9⟩
        ·
          have hp14 := hq14
          refine TF.skip rfl (wantF_no rfl rfl rfl hq14) ?_
          refine TF.skip rfl (wantF_no rfl rfl rfl hq14) ?_
          refine TF.skip rfl (wantF_no rfl rfl rfl hq14) ?_
          refine TF.skip rfl (wantF_no rfl rfl rfl hq14) ?_
          refine TF.skip rfl (wantF_no rfl rfl rfl hq14) ?_
          refine TF.skip rfl (wantF_no rfl rfl rfl hq14) ?_
          refine TF.skip rfl (wantF_no rfl rfl rfl hq14) ?_
          refine TF.skip rfl (wantF_no rfl rfl rfl hq14) ?_
          refine TF.skip rfl (wantF_no rfl rfl rfl hq14) ?_
          refine TF.u (v := (.bool _)) rfl rfl (pr_pickF rfl hq14 rfl) ?_
          clear hB
          refine TF.nil (nx_then ?_)
          refine cw_condF (t := _) rfl rfl rfl ?_
          refine cw_skip (nx_then ?_)
          refine cw_seq ?_
          -- region 8 ref.go:86
          refine cw_region (clf [.U, .U, .U, .U, .U, .U, .X]) [0, 1, 2, 3, 4, 5, 6] rfl (by kernel_rfl) (by decide) ?_
          refine TF.u (v := (.pointer (some ⟨_, 0, none⟩))) rfl rfl (pr_move rfl) ?_
          refine TF.u (v := (.int .i64 _)) rfl rfl (pr_move rfl) ?_
          refine TF.u (v := (.agg ⟨rnV noNd⟩)) rfl rfl (pr_build (cs := rnV noNd) Try.bld89 rfl rfl) ?_
          refine TF.u (v := (.pointer (some _))) rfl rfl (pr_nil rfl) ?_
          refine TF.u (v := (.pointer (some ⟨_, 1, none⟩))) rfl rfl (pr_field (o' := 1) Try.underlying92 rfl (Try.ty90.s) (by decide) rfl rfl) ?_
          refine TF.u (v := (.pointer (some ⟨_, _, none⟩))) rfl rfl (pr_idxA Try.underlying90 (Try.ty89.s) rfl rfl (by omega) (by omega)) ?_
          refine TF.storeN (q := 2) (cs' := rsbV (SB.mk A n_ c (s.ar.set j noNd))) H rfl rfl rfl (wantF_none rfl) (Try.ty89.s) rfl rfl rfl (rnV_one _) (by rw [rsbV_len ok.ar]; omega) (rsb_set noNd (by rw [show _ = 8 from ok.ar]; omega)) ?_
          clear H
          intro w ho26 H
          replace H : Sat _ _ _ [_, _, _] := H
          refine TF.nil (nx_then ?_)
          refine cw_seq ?_
          -- region 9 ref.go:87
          refine cw_region (clf [.U]) [0] rfl (by kernel_rfl) (by decide) ?_
          refine TF.u (v := (.int .i64 _)) rfl rfl (pr_assign rfl) ?_
          refine TF.nil (nx_then ?_)
          refine cw_ret (fin1 (v := (.int .i64 _)) Try.results38 rfl rfl ?_)
          have hok9 := rMend_ok (s := s) ok (j : Int) (mk : Int)
          have hW : rMend s (j : Int) (mk : Int) = _ := rMend_n h123 hae (by rintro ⟨h1_, h2_⟩; simp_all)
          simp only [Int.toNat_natCast] at hW
          rw [hW] at hok9 ⊢
          refine ⟨rfl, Sat.toUpd (k := 0) (L := [_]) (Sat.ex ((A : Option Addr), n_, c) (H.two (i := 1) (j := 1) rfl rfl).sep) rfl, hok9⟩
end Go.Proofs.Ytpncaeadbfdflaa
