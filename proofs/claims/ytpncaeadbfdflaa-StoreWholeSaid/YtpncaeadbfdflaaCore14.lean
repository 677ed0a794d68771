/- A region that draws its order, in which two things (side by side, at the head of the state) are turned by calls, one behind the other. Conditions: none. -/
import Derived.Test.YtpncaeadbfdflaaCore13
set_option linter.unusedSimpArgs false
set_option linter.unusedVariables false
namespace Go.Q
open Go.RowKit
theorem Only.mono {F G : List Nat} {w w' : World} (h : Only F w w') (hs : ∀ k ∈ F, k ∈ G) : Only G w w' := ⟨h.os, h.tape, h.output, h.size, fun k hk hn => h.block k hk fun hF => hn (hs k hF)⟩
theorem Upd.keep {a' b : Chk} {F1 F2 : List Nat} {w w1 : World} (hu : Upd a' F1 w w1) (hb : b.p w F2) (hd : ∀ k ∈ F1, k ∉ F2) : b.p w1 F2 :=
  b.loc hb fun k hk => hu.1.block k (b.inb hb k hk) fun h => hd k h hk
theorem Upd.seq2 {a' b b' : Chk} {F1 F2 : List Nat} {w w1 w2 : World} (hb0 : b.p w F2) (hd : ∀ k ∈ F1, k ∉ F2) (ha : Upd a' F1 w w1) (hb : Upd b' F2 w1 w2) (hin : ∀ k ∈ F1, k < w.heap.size) : Upd (cSep a' b') (F1 ++ F2) w w2 := by
  obtain ⟨o1, G1, p1, n1⟩ := ha
  obtain ⟨o2, G2, p2, n2⟩ := hb
  have hb2 : ∀ k ∈ F2, k < w.heap.size := b.inb hb0
  refine ⟨(o1.mono fun k hk => List.mem_append_left _ hk).trans (o2.mono fun k hk => List.mem_append_right _ hk), G1 ++ G2, ⟨G1, G2, a'.loc p1 fun k hk => o2.block k (a'.inb p1 k hk) fun h => ?_, p2, fun k hk hk2 => ?_, rfl⟩, fun k hk => ?_⟩
  · rcases n1 k hk with h1 | h1
    · exact hd k h1 h
    · have := hb2 k h; omega
  · rcases n1 k hk with h1 | h1
    · rcases n2 k hk2 with h2 | h2
      · exact hd k h1 h2
      · have := hin k h1; have := o1.size; omega
    · rcases n2 k hk2 with h2 | h2
      · have := hb2 k h2; omega
      · have := a'.inb p1 k hk; omega
  · rcases List.mem_append.1 hk with hk | hk
    · rcases n1 k hk with h1 | h1
      · exact .inl (List.mem_append_left _ h1)
      · exact .inr h1
    · rcases n2 k hk with h1 | h1
      · exact .inl (List.mem_append_right _ h1)
      · exact .inr (Nat.le_trans o1.size h1)
theorem Upd.left {a' b : Chk} {F1 F2 : List Nat} {w w1 : World} (hb0 : b.p w F2) (hd : ∀ k ∈ F1, k ∉ F2) (ha : Upd a' F1 w w1) (hin : ∀ k ∈ F1, k < w.heap.size) : Upd (cSep a' b) (F1 ++ F2) w w1 :=
  Upd.seq2 hb0 hd ha (Upd.refl (ha.keep hb0 hd)) hin
theorem cw_drawH {P : Program} {ops : Array Oper} {n : Nat} {Q : Exit → Act → World → Prop} {O : List Nat} {w0 w : World} {L : List Chk} {c : Chk} {id : Nat} {f : Nat → Value} (H : Sat O w0 w (c :: L)) (hm : P.follows .mixedOrders = true)
    (cl : Nat → Cl) (l : List Nat) (hok : okOrd ops cl l = true) (hb : okBound n ops = true)
    (h : ∀ wr F, Below w.heap.size w wr → Sat O w0 wr (c :: L) → c.p wr F → (∀ {w' : World} {c' : Chk}, Upd c' F wr w' → Sat O w0 w' (c' :: L)) → (∀ (j : Nat) (cj : Chk), nth L j = some cj → ∀ x, Only F wr x → ∃ F', cj.p x F') → TF P ops n Q (fun x => Only F wr x) cl l f wr) :
    (Code.region id ops true).wp P Q (E n f) w := by
  have H1 := H.below (below_drew w)
  obtain ⟨G, ⟨F, G', hc, hL, hd, hG⟩, hO⟩ := H1.own
  subst hG
  refine cw_draw hm (fun x => Only F w.drew x) cl l hok hb (Only.refl _ _) (h _ F (below_drew w) H1 hc (fun {w' c'} hu => ?_) fun j cj hj x hx => ?_)
  · obtain ⟨ho, F', h1, h2⟩ := hu
    have hL' : SatL w' L G' := hL.loc fun k hk => ho.block k (hL.inb k hk) (fun hF => hd k hF hk)
    refine ⟨⟨ho.os.trans H1.only.os, ho.tape.trans H1.only.tape, ho.output.trans H1.only.output, Nat.le_trans H1.only.size ho.size, fun j hj hn => ?_⟩, F' ++ G', ⟨F', G', h1, hL', fun k hk hk' => ?_, rfl⟩, fun j hj => ?_⟩
    · refine (ho.block j (Nat.lt_of_lt_of_le hj H1.only.size) fun hF => ?_).trans (H1.only.block j hj hn)
      rcases hO j (List.mem_append_left _ hF) with h | h
      · exact hn h
      · omega
    · rcases h2 k hk with h | h
      · exact hd k h hk'
      · have := hL.inb k hk'; omega
    · rcases List.mem_append.1 hj with h | h
      · rcases h2 j h with h | h
        · exact hO j (List.mem_append_left _ h)
        · exact .inr (Nat.le_trans H1.only.size h)
      · exact hO j (List.mem_append_right _ h)
  · have hLx : SatL x L G' := hL.loc fun k hk => hx.block k (hL.inb k hk) (fun hF => hd k hF hk)
    obtain ⟨F', h1, _⟩ := hLx.get hj
    exact ⟨F', h1⟩
section
variable {P : Program} {ops : Array Oper} {n : Nat} {Q : Exit → Act → World → Prop} {S : World → Prop} {cl : Nat → Cl} {i : Nat} {l : List Nat} {f : Nat → Value} {w : World}
variable {x y : Operand} {t t1 t2 : TypeId} {pos : String} {aft : Array Edge} {g : Option (Nat × Bool)} {d : Tmp} {dd : Option Tmp} {de : TypeDesc} {sz e : Nat}
theorem TF.loadEq {b o et : Nat} {cs cs' : List Value} (ho : ops[i]? = some ⟨some d, .load t1 x, t, pos, aft, g⟩) (hc : cl i = .R) (hg : wantF ops f ⟨some d, .load t1 x, t, pos, aft, g⟩ = true) (he : Sz P t1 de sz) (hd : flat de = false)
    (hx : op f x = .pointer (some ⟨b, o, none⟩)) (hb : ∀ w', S w' → Blk w' b et cs) (hl : cs'.length = sz) (hr : (cs.drop o).take sz = cs') (h : TF P ops n Q S cl l (upd f d (.agg ⟨cs'⟩)) w) : TF P ops n Q S cl (i :: l) f w := by
  subst hr
  exact TF.loadNr ho hc hg he hd hx hl (fun w' hw => (hb w' hw).atN sz) h
end
end Go.Q
