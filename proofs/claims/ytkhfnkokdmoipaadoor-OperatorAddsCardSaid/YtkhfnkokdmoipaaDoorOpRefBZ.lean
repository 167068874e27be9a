/- Parts of the proof: OpRefB. -/
import Derived.Test.YtkhfnkokdmoipaaDoorOpM2
import Derived.Test.YtkhfnkokdmoipaaDoorOpM7
/- The reference's resolve: one round of its recursion. -/
set_option linter.unusedVariables false
set_option linter.unusedSimpArgs false
namespace Lfc
def mixOf (L : LowS) : Bool := if L.at_.length = 0 then false else !L.same
theorem mix_new (j : Nat) (o : Op) : mixOf ⟨[j], o, true⟩ = false := rfl
theorem mix_more (L : LowS) (j : Nat) (b : Bool) (h : L.at_.length ≠ 0) : mixOf ⟨L.at_ ++ [j], L.first, L.same && b⟩ = (mixOf L || !b) := by
  unfold mixOf
  rw [if_neg (by simp), if_neg h]
  cases L.same <;> cases b <;> rfl
end Lfc
namespace Go.Proofs.YtkhfnkokdmoipaaDoor
open Go.RowKit Go.Maps Go.WideMaps

def RefPost (w0 w : World) (r : Except Int Lfc.Raw) (e : Ending) (w' : World) : Prop :=
  (match r with
    | .ok t => ∃ v, e = .returned (.tuple #[v, .int .i64 0]) ∧ TreeVP (fun b => b < w0.heap.size ∨ w.heap.size ≤ b) w' t v
    | .error k => e = .returned (.tuple #[.agg #[.int .i64 0, S [], .int .i64 0, .slice none 0 0], .int .i64 k])) ∧ Below w.heap.size w w'
def RefUpto (w0 : World) (l : List Lfc.Op) (Al : Option Addr) (cl m : Nat) : Prop := ∀ (s : List Lfc.Opd) (A : Option Addr) (c : Nat) (w : World), s.length ≤ m → s.length ≤ 1000000 → s.length ≤ c → OpdsAt w0 A s → Below w0.heap.size w0 w →
    Calls Tryd.prog 36 #[.slice Al l.length cl, .slice A s.length c] w (RefPost w0 w (Lfc.refP l m s))
/-- The loop that seeks the lowest level: the row of places. -/
structure RefI (wa : World) (L : Lfc.LowS) (v : Value) (wr : World) : Prop where
  own : wr.ownsRow wa.heap.size 3 1 v L.at_.length (natCells L.at_)
  bel : Below wa.heap.size wa wr
theorem RefI.new {wa wr w' : World} {L : Lfc.LowS} {v : Value} (h : RefI wa L v wr) (hb : Below wr.heap.size wr w') : RefI wa L v w' :=
  ⟨own_below h.own hb, h.bel.trans (hb.mono h.bel.size)⟩
theorem RefI.one {wa W : World} {L : Lfc.LowS} {v : Value} (h : RefI wa L v W) (j : Nat) (o : Lfc.Op) : RefI wa ⟨[j], o, true⟩ (.slice (some ⟨W.heap.size, 0, none⟩) 1 1) (W.alloc (.cells #[.int .i64 (j : Int)] 3)).drew :=
  ⟨⟨rfl, .inr ⟨W.heap.size, 1, _, rfl, h.bel.size, heap_alloc_new W _, Nat.le_refl _, by unfold maxLen; omega, rfl, rfl⟩⟩, (h.bel.alloc h.bel.size _).drew⟩
theorem RefI.more {wa W w' : World} {L : Lfc.LowS} {v v' : Value} {o : Obj} (h : RefI wa L v W) (j : Nat) (b : Bool) (hg : (W.alloc o).grownBy w' v.ownBlock) (hown : w'.ownsRow wa.heap.size 3 1 v' (L.at_.length + 1) (natCells L.at_ ++ [.int .i64 (j : Int)])) : RefI wa ⟨L.at_ ++ [j], L.first, b⟩ v' w' := by
  have e : natCells (L.at_ ++ [j]) = natCells L.at_ ++ [.int .i64 (j : Int)] := by simp [natCells]
  have hb := h.bel.alloc h.bel.size o
  exact ⟨by rw [e, List.length_append]; exact hown, hb.grown hg hb.size (fun k hk => own_block_ge h.own k hk)⟩

/-- Lemmas for what stands behind the loop. -/
def Q0 (w0 w : World) (b : Nat) : Prop := b < w0.heap.size ∨ w.heap.size < b
theorem ref_of {w0 w wx w5 : World} {t : Lfc.Raw} {v : Value} (hx : w.heap.size < wx.heap.size) (h : TreeVP (fun b => b < w0.heap.size ∨ wx.heap.size ≤ b) w5 t v) : TreeVP (Q0 w0 w) w5 t v := by
  obtain ⟨v0, v1, v2, v3, e, hp⟩ := h
  exact ⟨v0, v1, v2, v3, e, TreeP.keep (fun _ _ _ => rfl) (Nat.le_refl _) (fun b _ hb => by unfold Q0; omega) _ _ _ _ _ hp⟩
theorem ref_keep {w0 w W W' : World} {t : Lfc.Raw} {v : Value} (hb : Below W.heap.size W W') (h : TreeVP (Q0 w0 w) W t v) : TreeVP (Q0 w0 w) W' t v := by
  obtain ⟨v0, v1, v2, v3, e, hp⟩ := h
  exact ⟨v0, v1, v2, v3, e, TreeP.keep (fun b _ hl => hb.block b hl) hb.size (fun _ _ h => h) _ _ _ _ _ hp⟩
theorem ref_fin {w0 w W s4 : World} {t : Lfc.Raw} {v0 v1 v2 v3 : Value} (h0 : w0.heap.size ≤ w.heap.size) (ho : Oth w.heap.size W s4) (h : TreeVP (Q0 w0 w) W t (.agg #[v0, v1, v2, v3])) : TreeVP (fun b => b < w0.heap.size ∨ w.heap.size ≤ b) s4 t (.agg #[v0, v1, v2, v3]) := by
  obtain ⟨u0, u1, u2, u3, e, hp⟩ := h
  cases e
  exact ⟨_, _, _, _, rfl, TreeP.keep (fun b hb hlt => ho.block b hlt (fun e => by have := Option.some.inj e; unfold Q0 at hb; omega)) ho.size (fun b _ hb => by unfold Q0 at hb; omega) _ _ _ _ _ hp⟩
theorem rApp_ref {w0 w : World} (f a : Lfc.Raw) (v1 v2 : Value) (W : World) (hW : w.heap.size < W.heap.size) (h1 : TreeVP (Q0 w0 w) W f v1) (h2 : TreeVP (Q0 w0 w) W a v2) :
    Calls Tryd.prog 57 #[v1, v2] W fun e w' => (∃ v', e = .returned v' ∧ TreeVP (Q0 w0 w) w' (Lfc.appT f a) v') ∧ Below W.heap.size W w' :=
  (rApp_any f a v1 v2 W (Q0 w0 w) h1 h2).mono fun _ _ ⟨⟨v, e, v0, v1, v2, v3, ev, hp⟩, hb⟩ => ⟨⟨v, e, v0, v1, v2, v3, ev, TreeP.keep (fun _ _ _ => rfl) (Nat.le_refl _) (fun b _ hb => by unfold Q0 at *; omega) _ _ _ _ _ hp⟩, hb⟩
/-- An operand of the sequence, in every later world. -/
theorem opd_at {w0 w : World} {b0 o0 : Nat} {s : List Lfc.Opd} (hs : OpdsAt w0 (some ⟨b0, o0, none⟩) s) (hb0 : b0 < w0.heap.size) {i : Nat} (hi : i < s.length) : ∃ k n p ts B c, s[i].tree = .node k n p ts ∧ (∀ W, Below w0.heap.size w0 W → W.cell? ⟨b0, o0 + i * 5, none⟩ = some (.int .i64 k) ∧ W.cell? ⟨b0, o0 + i * 5 + 1, none⟩ = some (S n) ∧ W.cell? ⟨b0, o0 + i * 5 + 2, none⟩ = some (.int .i64 p) ∧ W.cell? ⟨b0, o0 + i * 5 + 3, none⟩ = some (.slice B ts.length c) ∧ W.cell? ⟨b0, o0 + i * 5 + 4, none⟩ = some (.bool s[i].closed)) ∧ (∀ W, Below w0.heap.size w0 W → TreeVP (Q0 w0 w) W (.node k n p ts) (.agg #[.int .i64 k, S n, .int .i64 p, .slice B ts.length c]) ∧ OpdV W s[i] (.agg #[.int .i64 k, S n, .int .i64 p, .slice B ts.length c, .bool s[i].closed])) := by
  obtain ⟨b, o, k, n, p, ts, B, c, hA, hb, e, c0, c1, c2, c3, c4, hT⟩ := hs.at_ hi
  cases hA
  refine ⟨k, n, p, ts, B, c, e, fun W hW => ⟨(hW.cell (p := ⟨b0, _, none⟩) hb0).trans c0, (hW.cell (p := ⟨b0, _, none⟩) hb0).trans c1, (hW.cell (p := ⟨b0, _, none⟩) hb0).trans c2, (hW.cell (p := ⟨b0, _, none⟩) hb0).trans c3, (hW.cell (p := ⟨b0, _, none⟩) hb0).trans c4⟩, fun W hW => ⟨?_, k, n, p, ts, B, c, e, rfl, hT.below hW⟩⟩
  obtain ⟨v0, v1, v2, v3, ev, hp⟩ := TreeV.toP (q := fun b => b < w0.heap.size) (fun b hb => hb) hT
  exact ⟨v0, v1, v2, v3, ev, TreeP.keep (fun b hb _ => hW.block b hb) hW.size (fun b _ hb => .inl hb) _ _ _ _ _ hp⟩
theorem slice_hi {w0 : World} {b0 o0 c i : Nat} {s : List Lfc.Opd} (hi : i ≤ s.length) (hc : s.length ≤ c) (hs : OpdsAt w0 (some ⟨b0, o0, none⟩) s) : ∃ A3 c3, (∀ W : World, (Instr.sliceAt 28 (.slice (some ⟨b0, o0, none⟩) s.length c) none (some (.int .i64 (i : Int))) none).run Tryd.prog W = .ok (.slice A3 (s.take i).length c3) W) ∧ OpdsAt w0 A3 (s.take i) ∧ (s.take i).length ≤ c3 := by
  refine ⟨some ⟨b0, o0, none⟩, c, fun W => ?_, ?_, by rw [List.length_take]; omega⟩
  · have hsz : (sizeOf (Tryd.prog.elem 28)).run Tryd.prog W = .ok 5 W := by kernel_rfl
    rw [run_sliceAt_slice _ _ _ _ _ _ (by kernel_rfl), run_slice_h _ _ _ _ _ (by kernel_rfl) .i64 _ (by omega) (by omega), hsz, List.length_take, Nat.min_eq_left (by omega), Int.toNat_natCast]
    simp [Result.andThen, sliced, Addr.add]
  · have := hs.part 0 i
    simpa using this
theorem slice_lo {w0 : World} {b0 o0 c i : Nat} {s : List Lfc.Opd} (hi : i ≤ s.length) (hc : s.length ≤ c) (hs : OpdsAt w0 (some ⟨b0, o0, none⟩) s) : ∃ A3 c3, (∀ W : World, (Instr.sliceAt 28 (.slice (some ⟨b0, o0, none⟩) s.length c) (some (.int .i64 (i : Int))) none none).run Tryd.prog W = .ok (.slice A3 (s.drop i).length c3) W) ∧ OpdsAt w0 A3 (s.drop i) ∧ (s.drop i).length ≤ c3 := by
  refine ⟨if c = i then some ⟨b0, o0, none⟩ else some ⟨b0, o0 + i * 5, none⟩, c - i, fun W => ?_, ?_, by rw [List.length_drop]; omega⟩
  · have hsz : (sizeOf (Tryd.prog.elem 28)).run Tryd.prog W = .ok 5 W := by kernel_rfl
    rw [run_sliceAt_slice _ _ _ _ _ _ (by kernel_rfl), run_slice_l _ _ _ _ _ (by kernel_rfl) .i64 (i : Int) (by omega) (by omega), hsz, List.length_drop]
    simp only [Result.andThen, sliced, Int.toNat_natCast, Option.map_some, Go.WideShapes.add_plain]
  · by_cases hcb : c = i
    · intro hne
      exact absurd (List.length_eq_zero_iff.1 (by rw [List.length_drop]; omega)) hne
    · rw [if_neg hcb]
      have := hs.part i s.length
      rwa [List.take_length] at this
theorem refP_err (l : List Lfc.Op) : ∀ (m : Nat) (s : List Lfc.Opd) (e : Int), Lfc.refP l m s = .error e → e = 21 ∨ e = 22
  | 0, s, e, h => by rw [Lfc.refP] at h; cases h; exact .inl rfl
  | m + 1, s, e, h => by
    rw [Lfc.refP] at h
    split at h
    · cases h; exact .inl rfl
    · have un : ∀ (o : Lfc.Raw) (rest : List Lfc.Opd) (th : Bool), Lfc.unT (Lfc.refP l m) o rest th = .error e → e = 21 ∨ e = 22 := fun o rest th hu => by
        unfold Lfc.unT at hu
        split at hu
        · cases h2 : Lfc.refP l m rest with
          | error e' => rw [h2] at hu; cases hu; exact refP_err l m _ _ h2
          | ok t => rw [h2] at hu; cases hu
        · cases hu; exact .inl rfl
      unfold Lfc.refBody at h
      split at h
      · cases h
      · split at h
        · cases h; exact .inr rfl
        · split at h
          · exact un _ _ _ h
          · split at h
            · exact un _ _ _ h
            · unfold Lfc.splitT at h
              generalize (if (Lfc.low l s).first.fix = 4 then Lfc.lastOf (Lfc.low l s).at_ else (Lfc.low l s).at_.getD 0 0) = i at h
              cases h2 : Lfc.refP l m (s.take i) with
              | error e' => rw [h2] at h; cases h; exact refP_err l m _ _ h2
              | ok t =>
                rw [h2] at h
                simp only at h
                cases h3 : Lfc.refP l m (s.drop (i + 1)) with
                | error e' => rw [h3] at h; cases h; exact refP_err l m _ _ h3
                | ok t => rw [h3] at h; cases h
theorem ref_joinT_R (k p : Int) (ts : List Lfc.Raw) (a b : Lfc.Raw) : Lfc.joinT (.node k [45, 62] p ts) a b = .node 6 [] p [a, b] := if_pos rfl
theorem ref_joinT_L (k p : Int) (ts : List Lfc.Raw) (a b : Lfc.Raw) : Lfc.joinT (.node k [60, 45] p ts) a b = .node 6 [] p [b, a] := (if_neg (show ¬ ([60, 45] : List UInt8) = [45, 62] by decide)).trans (if_pos rfl)
theorem ref_joinT_N (k p : Int) (n : List UInt8) (ts : List Lfc.Raw) (a b : Lfc.Raw) (h1 : n ≠ [45, 62]) (h2 : n ≠ [60, 45]) : Lfc.joinT (.node k n p ts) a b = Lfc.appT (Lfc.appT (.node k n p ts) a) b := (if_neg h1).trans (if_neg h2)
theorem last_get {at_ : List Nat} (h : 0 < at_.length) : Lfc.lastOf at_ = at_[at_.length - 1] := by
  unfold Lfc.lastOf
  rw [List.getD_eq_getElem?_getD, List.getElem?_eq_getElem (by omega)]; rfl
theorem head_get {at_ : List Nat} (h : 0 < at_.length) : at_.getD 0 0 = at_[0] := by
  rw [List.getD_eq_getElem?_getD, List.getElem?_eq_getElem h]; rfl

set_option maxRecDepth 100000 in
set_option maxHeartbeats 8000000 in
theorem rres_step (w0 : World) (l : List Lfc.Op) (Al : Option Addr) (cl m : Nat) (hll : l.length ≤ 1000000) (hl : OpsAt w0 Al l) (ih : RefUpto w0 l Al cl m) (s : List Lfc.Opd) (A : Option Addr) (c : Nat) (w : World) (hm : s.length ≤ m + 1) (hsl : s.length ≤ 1000000) (hc : s.length ≤ c) (hs : OpdsAt w0 A s) (hb0 : Below w0.heap.size w0 w) (hz : s.length ≠ 0) :
    Calls Tryd.prog 36 #[.slice Al l.length cl, .slice A s.length c] w (RefPost w0 w (Lfc.refBody l (Lfc.refP l m) s)) := by
  obtain ⟨i0, hi, hz0, hz1, hz2⟩ := info_int
  have hpos : 0 < s.length := by omega
  have hlz : ((s.length : Int) == 0) = false := by simp; intro e; simp [e] at hz
  obtain ⟨b0, o0, rfl, hb00, _⟩ := hs (by intro e; rw [e] at hpos; simp at hpos)
  obtain ⟨wa, hwa⟩ : ∃ wa, w.alloc (.cells #[.int .i64 0, S [], .int .i64 0, .slice none 0 0] 39) = wa := ⟨_, rfl⟩
  have ba : Below w.heap.size w wa := by rw [← hwa]; exact (Below.refl _ _).alloc (Nat.le_refl _) _
  have qr : wa.heap[w.heap.size]? = some (.cells #[.int .i64 0, S [], .int .i64 0, .slice none 0 0] 39 (0, 0)) := by rw [← hwa]; exact heap_alloc_new _ _
  have hsa := eq2 (show wa.heap.size = w.heap.size + 1 by rw [← hwa]; simp)
  have hs0 := hb0.size
  have BA := Lib.hid ba
  have QR := Lib.hid qr
  have HS := Lib.hid hs
  have HL := Lib.hid hl
  have IH := Lib.hid ih
  have HB0 := Lib.hid (hb0.trans (ba.mono hs0))
  have HPL := Lib.hid (fun j (hj : j ≤ s.length) => Lfc.low_places l s j hj)
  have HSUC := Lib.hid (fun j (hj : j < s.length) => Lfc.low_succ l s j hj)
  clear ba qr hs hl ih hb0 hz
  go_enter Tryd.func36, Tryd.ntmps36
  go_upto_region 1 with fail
  clear hwa
  go_upto_region 5 with fail
  go_upto_block 0 with fail
  go_cut [6, 7, 8, 9] (fun vp lv fx mx wx => ∃ (A' : Option Addr) (c' : Nat), vp = .slice A' (Lfc.low l s).at_.length c' ∧ lv = .int .i64 (Lfc.low l s).first.prec ∧ fx = .int .i64 (Lfc.low l s).first.fix ∧ mx = .bool (Lfc.mixOf (Lfc.low l s)) ∧ Hid (RefI wa (Lfc.low l s) (.slice A' (Lfc.low l s).at_.length c') wx))
  case first =>
    go_wp2_with fail
    go_loopw [6, 7, 8, 9, 10] (fun vp lv fx mx i wr => ∃ (j : Nat) (L : Lfc.LowS) (A' : Option Addr) (c' : Nat), i = .int .i64 j ∧ j ≤ s.length ∧ Hid (L = Lfc.low l (s.take j)) ∧ vp = .slice A' L.at_.length c' ∧ lv = .int .i64 L.first.prec ∧ fx = .int .i64 L.first.fix ∧ mx = .bool (Lfc.mixOf L) ∧ Hid (RefI wa L (.slice A' L.at_.length c') wr)) (fun _ _ _ _ i _ => s.length - (intOf i).toNat)
    case atStart => exact ⟨0, Lfc.lowZ, none, 0, rfl, Nat.zero_le _, Lib.hid (by simp [Lfc.low, Lfc.lowN]), rfl, rfl, rfl, rfl, Lib.hid ⟨own_nil _ _ _ _, Below.refl _ _⟩⟩
    case round =>
      obtain ⟨j, L, A', c', rfl, hj, HLO, rfl, rfl, rfl, rfl, HI⟩ := hrel
      by_cases hlt : j < s.length
      · have bel : Below w0.heap.size w0 wr := HB0.out.trans (HI.out.bel.mono HB0.out.size)
        obtain ⟨b, o, k, n, p, ts, B, c1, hA0, hb, ht, d0, d1, d2, d3, d4, hT⟩ := (HS.out.below bel).at_ hlt
        cases hA0
        have CF := Lib.hid (rfind_any l s[j] _ Al cl wr hll (HL.out.below bel) ⟨k, n, p, ts, B, c1, ht, rfl, hT⟩)
        have HST := HSUC.out j hlt
        rw [← HLO.out] at HST
        have HSTEP := Lib.hid HST
        have hpl := HPL.out j hj
        rw [← HLO.out] at hpl
        have hatl : L.at_.length ≤ j := Lfc.places_len hpl
        have hi0 : (0 : Int) ≤ (j : Int) := Int.natCast_nonneg _
        have hi1 : (j : Int) < (s.length : Int) := by omega
        generalize hcl : s[j].closed = cq at *
        generalize hop : Lfc.opOf l s[j] = oo at *
        clear hT HST ht hcl hop hpl bel
        go_wp2_with fail
        refine CF.out.mono ?_
        rintro e w3 ⟨he, b3⟩
        have I3 := Lib.hid (HI.out.new b3)
        clear d0 d1 d2 d3 d4 b3 HI CF
        cases oo with
        | none =>
          simp only at he
          subst he
          obtain ⟨w4, hw4⟩ : ∃ w4, w3.alloc (.cells #[S [], .int .i64 0, .int .i64 0] 36) = w4 := ⟨_, rfl⟩
          have I4 : Hid (RefI wa L (.slice A' L.at_.length c') w4) := by rw [← hw4]; exact Lib.hid (I3.out.new ((Below.refl _ _).alloc (Nat.le_refl _) _))
          have HW4 := Lib.hid hw4
          have hsame : Hid (L = Lfc.low l (s.take (j + 1))) := Lib.hid (by rw [HSTEP.out]; rfl)
          clear hw4
          go_upto_region 9 with fail
          rw [HW4.out]
          go_wp2_with fail
          go_roundw
          case rel => exact ⟨j + 1, L, A', c', by go_num, by omega, hsame, rfl, rfl, rfl, rfl, I4⟩
          case measure => simp [intOf]; omega
        | some oo =>
          simp only at he
          obtain ⟨on, rfl⟩ := he
          obtain ⟨on', of, op⟩ := oo
          simp only at *
          obtain ⟨w4, hw4⟩ : ∃ w4, w3.alloc (.cells #[S on, .int .i64 of, .int .i64 op] 36) = w4 := ⟨_, rfl⟩
          have I4 : Hid (RefI wa L (.slice A' L.at_.length c') w4) := by rw [← hw4]; exact Lib.hid (I3.out.new ((Below.refl _ _).alloc (Nat.le_refl _) _))
          have q4 : w4.heap[w3.heap.size]? = some (.cells #[S on, .int .i64 of, .int .i64 op] 36 (0, 0)) := by rw [← hw4]; exact heap_alloc_new _ _
          obtain ⟨u0, u1, u2⟩ := cells3 q4
          have hlt4 := lt_of_block q4
          have HW4 := Lib.hid hw4
          clear hw4 q4
          go_upto_region 9 with fail
          rw [HW4.out]
          by_cases hcase : L.at_.length = 0 ∨ op < L.first.prec
          · have hL2 : Hid ((⟨[j], ⟨on', of, op⟩, true⟩ : Lfc.LowS) = Lfc.low l (s.take (j + 1))) := Lib.hid (by rw [HSTEP.out, Lfc.lowStep_new _ _ _ hcase])
            have HN := Lib.hid (I4.out.one j ⟨on', of, op⟩)
            have r1 : ∀ v, (w4.alloc v).cell? ⟨w3.heap.size, 1, none⟩ = some (.int .i64 of) := fun v => (World.cell?_of_block (Lib.alloc_old w4 _ _ hlt4)).trans u1
            have r2 : ∀ v, (w4.alloc v).cell? ⟨w3.heap.size, 2, none⟩ = some (.int .i64 op) := fun v => (World.cell?_of_block (Lib.alloc_old w4 _ _ hlt4)).trans u2
            have hguard : ((L.at_.length : Int) == 0) = true ∨ (((L.at_.length : Int) == 0) = false ∧ decide (op < L.first.prec) = true) := by
              rcases Nat.eq_zero_or_pos L.at_.length with h | h
              · exact .inl (by simp [h])
              · exact .inr ⟨by simp; intro e; simp [e] at h, by simp; omega⟩
            clear hcase
            rcases hguard with hg1 | ⟨hg1, hg2⟩
            all_goals
              go_wp2_with fail
              go_region_held3 (fun W => W.cell? ⟨w3.heap.size, 1, none⟩ = some (.int .i64 of) ∧ W.cell? ⟨w3.heap.size, 2, none⟩ = some (.int .i64 op))
                (first | exact ⟨u1, u2⟩ | exact ⟨r1 _, r2 _⟩ | go_keep)
                (fail)
              all_goals
                go_wp2_with fail
                go_roundw
                case rel => exact ⟨j + 1, ⟨[j], ⟨on', of, op⟩, true⟩, some ⟨w4.heap.size, 0, none⟩, 1, by go_num, by omega, hL2, rfl, rfl, rfl, rfl, HN⟩
                case measure => simp [intOf]; omega
          · have ha : L.at_.length ≠ 0 := fun e => hcase (.inl e)
            have ha2 : ((L.at_.length : Int) == 0) = false := by simp; intro e; exact ha (by simp [e])
            have hlt2 : ¬ op < L.first.prec := fun e => hcase (.inr e)
            have hlt3 : decide (op < L.first.prec) = false := by simpa using hlt2
            have HA := Lib.hid ha
            clear ha
            by_cases hpe : op = L.first.prec
            · have hpe2 : (op == L.first.prec) = true := by simpa using hpe
              have hlm : L.at_.length + 1 ≤ maxLen := by unfold maxLen; omega
              have hl8 : (L.at_.length + 1) * 8 ≤ 140737488355328 := by omega
              have hL2 : Hid ((⟨L.at_ ++ [j], L.first, L.same && decide (of = L.first.fix)⟩ : Lfc.LowS) = Lfc.low l (s.take (j + 1))) := Lib.hid (by rw [HSTEP.out, Lfc.lowStep_more _ _ _ hcase hpe])
              have HMX := Lib.hid (Lfc.mix_more L j (decide (of = L.first.fix)) HA.out)
              have hne : some w3.heap.size ≠ (Value.slice A' L.at_.length c').ownBlock := fun e => by have := (I3.out.own.lt _ e.symm).2; omega
              have HNE := Lib.hid hne
              clear hpe hcase hlt2 hne
              generalize Lfc.mixOf L = mx at *
              go_wp2_with (at_builtin; refine wpList_append_own_at _ rfl _ _ 22 rfl wa.heap.size 3 i0 (.int .i64 0) 1 8 Tryd.underlying22 hi hz0 hz1 hz2 rfl (by decide) _ _ _ rfl (I4.out.own.alloc _) ⟨w4.heap.size, 0, none⟩ 1 1 [.int .i64 (j : Int)] rfl rfl (cell_one_new _ _ _) (by intro u hu; simp at hu; subst hu; rfl) hlm hl8 (alloc_le I4.out.bel.size) ?_)
              intro v' w6 hown6 hg6 _ _
              obtain ⟨A6, c6, rfl⟩ := own_form hown6
              have HLN : (L.at_ ++ [j]).length = L.at_.length + 1 := by simp
              have HN' : Hid (RefI wa ⟨L.at_ ++ [j], L.first, L.same && decide (of = L.first.fix)⟩ (.slice A6 (L.at_ ++ [j]).length c6) w6) := Lib.hid (by rw [HLN]; exact I4.out.more j (L.same && decide (of = L.first.fix)) hg6 hown6)
              have z1 : w6.cell? ⟨w3.heap.size, 1, none⟩ = some (.int .i64 of) := by
                rw [World.cell?_of_block (a := ⟨w3.heap.size, 1, none⟩) (hg6.block _ (by simp; omega) HNE.out), World.cell?_of_block (a := ⟨w3.heap.size, 1, none⟩) (Lib.alloc_old w4 _ _ hlt4)]
                exact u1
              clear hown6 hg6 HLN
              cases mx
              · by_cases hf : of = L.first.fix
                · have hf2 : (of == L.first.fix) = true := by simpa using hf
                  have hf3 : (of != L.first.fix) = false := by simp [hf]
                  have hmx : Hid (Lfc.mixOf ⟨L.at_ ++ [j], L.first, L.same && decide (of = L.first.fix)⟩ = false) := Lib.hid (by rw [HMX.out]; simp [hf])
                  clear hf
                  go_wp2_with fail
                  go_roundw
                  case rel => exact ⟨j + 1, ⟨L.at_ ++ [j], L.first, L.same && decide (of = L.first.fix)⟩, A6, c6, by go_num, by omega, hL2, by simp, rfl, rfl, by first | rw [hmx.out] | (rw [hmx.out, hf3]), HN'⟩
                  case measure => simp [intOf]; omega
                · have hf2 : (of == L.first.fix) = false := by simpa using hf
                  have hf3 : (of != L.first.fix) = true := by simp [hf]
                  have hmx : Hid (Lfc.mixOf ⟨L.at_ ++ [j], L.first, L.same && decide (of = L.first.fix)⟩ = true) := Lib.hid (by rw [HMX.out]; simp [hf])
                  clear hf
                  go_wp2_with fail
                  go_roundw
                  case rel => exact ⟨j + 1, ⟨L.at_ ++ [j], L.first, L.same && decide (of = L.first.fix)⟩, A6, c6, by go_num, by omega, hL2, by simp, rfl, rfl, by first | rw [hmx.out] | (rw [hmx.out, hf3]), HN'⟩
                  case measure => simp [intOf]; omega
              · have hmx : Hid (Lfc.mixOf ⟨L.at_ ++ [j], L.first, L.same && decide (of = L.first.fix)⟩ = true) := Lib.hid (by rw [HMX.out]; simp)
                go_wp2_with fail
                go_roundw
                case rel => exact ⟨j + 1, ⟨L.at_ ++ [j], L.first, L.same && decide (of = L.first.fix)⟩, A6, c6, by go_num, by omega, hL2, by simp, rfl, rfl, by first | rw [hmx.out] | (rw [hmx.out, hf3]), HN'⟩
                case measure => simp [intOf]; omega
            · have hpe2 : (op == L.first.prec) = false := by simpa using hpe
              have hL2 : Hid (L = Lfc.low l (s.take (j + 1))) := Lib.hid (by rw [HSTEP.out, Lfc.lowStep_not _ _ _ hcase hpe])
              clear hpe hcase hlt2
              go_wp2_with fail
              go_roundw
              case rel => exact ⟨j + 1, L, A', c', by go_num, by omega, hL2, rfl, rfl, rfl, rfl, I4⟩
              case measure => simp [intOf]; omega
      · obtain rfl : j = s.length := by omega
        have HLE : Hid (L = Lfc.low l s) := Lib.hid (by rw [HLO.out, List.take_length])
        go_wp2_with fail
        go_meet
        rw [← HLE.out]
        exact ⟨A', c', rfl, rfl, rfl, rfl, HI⟩
  case rest =>
    obtain ⟨A', c', rfl, rfl, rfl, rfl, HI⟩ := hcut
    have hpl := Lfc.low_at l s
    have hatl := Lfc.places_len hpl
    have BC := Lib.hid (BA.out.trans (HI.out.bel.mono BA.out.size))
    have B0C := Lib.hid (HB0.out.trans (HI.out.bel.mono HB0.out.size))
    have hws : w.heap.size < wc.heap.size := by have := HI.out.bel.size; omega
    have HPLC := Lib.hid hpl
    generalize hLe : Lfc.low l s = L at *
    have HLE := Lib.hid hLe
    clear hLe HPL HSUC hpl
    by_cases h0 : L.at_.length = 0
    · have hg0 : ((L.at_.length : Int) == 0) = true := by simp [h0]
      have HRES : Hid (Lfc.refBody l (Lfc.refP l m) s = .ok (Lfc.appAll s)) := Lib.hid (by unfold Lfc.refBody; rw [HLE.out, if_pos h0])
      clear h0
      obtain ⟨k, n, p, us, Ao, co, hnd, hfc, htt⟩ := opd_at (w := w) HS.out hb00 hpos
      simp only [Nat.zero_mul, Nat.add_zero] at hfc
      obtain ⟨d0, d1, d2, d3, d4⟩ := hfc wc B0C.out
      obtain ⟨w4, hw4⟩ : ∃ w4, wc.alloc (.cells #[.int .i64 k, S n, .int .i64 p, .slice Ao us.length co] 39) = w4 := ⟨_, rfl⟩
      have b4 : Below wc.heap.size wc w4 := by rw [← hw4]; exact (Below.refl _ _).alloc (Nat.le_refl _) _
      have q4 : w4.heap[wc.heap.size]? = some (.cells #[.int .i64 k, S n, .int .i64 p, .slice Ao us.length co] 39 (0, 0)) := by rw [← hw4]; exact heap_alloc_new _ _
      have tq : TreeP (fun b => (b < w0.heap.size ∧ True) ∨ (wc.heap.size ≤ b ∧ b ≠ wc.heap.size)) wc s[0].tree (.int .i64 k) (S n) (.int .i64 p) (.slice Ao us.length co) := by
        obtain ⟨b', o', k', n', p', ts', B', c', hA', hb', e', c0', c1', c2', c3', c4', hT'⟩ := HS.out.at_ hpos
        cases hA'
        rw [hnd] at e'
        cases e'
        have e3 := (hfc w0 (Below.refl _ _)).2.2.2.1
        simp only [Nat.zero_mul, Nat.add_zero] at c3'
        rw [c3'] at e3
        cases e3
        rw [hnd]
        obtain ⟨v0, v1, v2, v3, ev, hp⟩ := TreeV.toP (q := fun b => b < w0.heap.size) (fun b hb => hb) hT'
        cases ev
        exact TreeP.keep (fun b hb _ => B0C.out.block b hb) B0C.out.size (fun b _ hb => .inl ⟨hb, trivial⟩) _ _ _ _ _ hp
      have hs4 := b4.size
      have I0 : Hid (AppI True w0 wc wc.heap.size s[0].tree k p n us Ao co w4) := Lib.hid ⟨b4, Nat.le_refl _, q4, TreeP.keep (fun b _ hlt => b4.block b hlt) b4.size (fun b hlt hb => hb) _ _ _ _ _ tq⟩
      have HAA := Lib.hid (appAll_eq s hpos)
      have HT0 : Hid (s[0].tree = ((s.drop 1).take 0).foldl (fun t x => Lfc.appT t x.tree) s[0].tree) := Lib.hid rfl
      generalize s[0].tree = tz at *
      have HW4 := Lib.hid hw4
      clear hw4 b4 q4 tq htt hnd hfc hs4
      go_upto_region 17 with fail
      rw [HW4.out]
      clear d0 d1 d2 d3 d4
      go_wp2_with fail
      obtain ⟨O, hO0⟩ : ∃ O, wc.heap.size = O := ⟨_, rfl⟩
      rw [hO0] at I0
      have HO0 := Lib.hid hO0
      simp only [hO0]
      clear hO0
      go_loopw [14] (fun i wr => ∃ (j : Nat) (t : Lfc.Raw) (k p : Int) (n : List UInt8) (us : List Lfc.Raw) (Ao : Option Addr) (co : Nat), i = .int .i64 j ∧ 1 ≤ j ∧ j ≤ s.length ∧ Hid (AppI True w0 wc O t k p n us Ao co wr) ∧ Hid (t = ((s.drop 1).take (j - 1)).foldl (fun t x => Lfc.appT t x.tree) tz)) (fun i _ => s.length - (intOf i).toNat)
      case atStart => exact ⟨1, tz, k, p, n, us, Ao, co, rfl, by omega, by omega, I0, HT0⟩
      case round =>
        clear I0 HW4 HT0
        obtain ⟨j, t, k, p, n, us, Ao, co, rfl, hj1, hj, HJ, HT⟩ := hrel
        have hO := lt_of_block HJ.out.out
        have hge := HJ.out.oge
        have hsr := HJ.out.bel.size
        by_cases hlt : j < s.length
        · have hdl : j - 1 < (s.drop 1).length := by rw [List.length_drop]; omega
          have hst := fold_step (s.drop 1) tz (j - 1) hdl
          have hge1 : (s.drop 1)[j - 1] = s[j] := by
            rw [List.getElem_drop]
            congr 1
            omega
          rw [hge1, show j - 1 + 1 = j by omega] at hst
          have HST := Lib.hid hst
          have bel : Below w0.heap.size w0 wr := B0C.out.trans (HJ.out.bel.mono B0C.out.size)
          obtain ⟨b', o', kx, nx, px, ux, Bx, cx, hA', hb', hndx, e0, e1, e2, e3, e4, hTx⟩ := HS.out.at_ hlt
          cases hA'
          have d0 := (bel.cell (p := ⟨b0, _, none⟩) hb00).trans e0
          have d1 := (bel.cell (p := ⟨b0, _, none⟩) hb00).trans e1
          have d2 := (bel.cell (p := ⟨b0, _, none⟩) hb00).trans e2
          have d3 := (bel.cell (p := ⟨b0, _, none⟩) hb00).trans e3
          obtain ⟨x0, x1, x2, x3⟩ := cells4 HJ.out.out
          have hTd : TreeVP (fun b => (b < w0.heap.size ∧ True) ∨ (wc.heap.size ≤ b ∧ b ≠ O)) wr s[j].tree (.agg #[.int .i64 kx, S nx, .int .i64 px, .slice Bx ux.length cx]) := by
            rw [hndx]
            obtain ⟨v0, v1, v2, v3, ev, hp⟩ := TreeV.toP (q := fun b => b < w0.heap.size) (fun b hb => hb) hTx
            exact ⟨v0, v1, v2, v3, ev, TreeP.keep (fun b hb _ => bel.block b hb) bel.size (fun b _ hb => .inl ⟨hb, trivial⟩) _ _ _ _ _ hp⟩
          have HTD := Lib.hid hTd
          have hi0 : (0 : Int) ≤ (j : Int) := Int.natCast_nonneg _
          have hi1 : (j : Int) < (s.length : Int) := by omega
          clear e0 e1 e2 e3 e4 hTx hTd hndx bel hst hge1 hdl
          go_wp2_with fail
          refine wp_region_still_tail 6 (by kernel_rfl) (by kernel_rfl) ?_
          simp only [List.take_succ_cons, List.take_zero, List.drop_succ_cons, List.drop_zero]
          change wpStill Tryd.prog _ wr.drew _ _ _
          repeat still_step
          try refine wpStill_nil ?_
          change wpList _ _ _ _ _ wr.drew
          obtain ⟨wz, hwz⟩ : ∃ wz, wr.drew = wz := ⟨_, rfl⟩
          rw [hwz]
          have bz : Below wr.heap.size wr wz := by rw [← hwz]; exact (Below.refl _ _).drew
          have hzs := eq2 (show wz.heap.size = wr.heap.size by rw [← hwz]; rfl)
          have CA := Lib.hid (rApp_any t s[j].tree (.agg #[.int .i64 k, S n, .int .i64 p, .slice Ao us.length co]) (.agg #[.int .i64 kx, S nx, .int .i64 px, .slice Bx ux.length cx]) wz (fun b => (b < w0.heap.size ∧ True) ∨ (wc.heap.size ≤ b ∧ b ≠ O)) ⟨_, _, _, _, rfl, TreeP.keep (fun b _ hlt => bz.block b hlt) bz.size (fun _ _ h => h) _ _ _ _ _ HJ.out.tree⟩ (by
            obtain ⟨v0, v1, v2, v3, ev, hp⟩ := HTD.out
            exact ⟨v0, v1, v2, v3, ev, TreeP.keep (fun b _ hlt => bz.block b hlt) bz.size (fun _ _ h => h) _ _ _ _ _ hp⟩))
          clear hwz d0 d1 d2 d3 x0 x1 x2 x3
          go_wp2_with fail
          refine CA.out.mono ?_
          rintro ee w5 ⟨⟨v5, rfl, hv5⟩, hb5⟩
          obtain ⟨k5, n5, p5, us5, A5, c5, e5, rfl, tp5⟩ := hv5.parts4
          have b5 : Below wr.heap.size wr w5 := bz.trans (hb5.mono (by omega))
          have qo5 := (b5.block _ hO).trans HJ.out.out
          obtain ⟨s1, s2, s3, s4, g1, g2, g3, g4, ⟨y0, y1, y2, y3⟩, ⟨f0, f1, f2, f3⟩, hq, ho⟩ := put4 qo5 (.int .i64 k5) (S n5) (.int .i64 p5) (.slice A5 us5.length c5)
          have tp5' : TreeP (fun b => ((b < w0.heap.size ∧ True) ∨ (wc.heap.size ≤ b ∧ b ≠ O)) ∨ wr.heap.size ≤ b) w5 _ _ _ _ _ := TreeP.keep (fun _ _ _ => rfl) (Nat.le_refl _) (fun b _ hb => by rcases hb with hb | hb; exact .inl hb; exact .inr (by omega)) _ _ _ _ _ tp5
          have HN := Lib.hid (HJ.out.next (by have := B0C.out.size; omega) b5 tp5' hq ho)
          have HT2 : Hid (Lfc.appT t s[j].tree = ((s.drop 1).take (j + 1 - 1)).foldl (fun t x => Lfc.appT t x.tree) tz) := Lib.hid (by rw [HT.out, show j + 1 - 1 = j by omega, HST.out])
          clear hq ho qo5 tp5 tp5' hv5 e5 b5 hb5 CA
          go_wp2_with fail
          go_roundw
          case rel => exact ⟨j + 1, _, _, _, _, _, _, _, by go_num, by omega, by omega, HN, HT2⟩
          case measure => simp [intOf]; omega
        · have HTT : Hid (Lfc.appAll s = t) := Lib.hid (by rw [HAA.out, HT.out, List.take_of_length_le (by rw [List.length_drop]; omega)])
          obtain ⟨x0, x1, x2, x3⟩ := cells4 HJ.out.out
          have bw := BC.out.trans (HJ.out.bel.mono BC.out.size)
          have qrz := (HJ.out.bel.block _ hws).trans ((HI.out.bel.block _ (lt_of_block QR.out)).trans QR.out)
          obtain ⟨s1, s2, s3, s4, g1, g2, g3, g4, ⟨y0, y1, y2, y3⟩, ⟨f0, f1, f2, f3⟩, hq, ho⟩ := put4 qrz (.int .i64 k) (S n) (.int .i64 p) (.slice Ao us.length co)
          have HQ := Lib.hid hq
          have HO := Lib.hid ho
          have HB := Lib.hid (Oth.below bw ho (Nat.le_refl _) bw.size)
          clear hq ho qrz bw
          go_wp2_with fail
          refine bodyPost_ret (results_raw2 rfl _ _ _ _ _ _ _ rfl HQ.out) rfl ?_
          unfold RefPost
          rw [HRES.out, HTT.out]
          refine ⟨⟨_, rfl, _, _, _, _, rfl, ?_⟩, HB.out⟩
          exact TreeP.keep (fun b hb hlt => HO.out.block b hlt (fun e => by have := Option.some.inj e; rcases hb with hb | hb; omega; have := hb.1; omega)) HO.out.size (fun b _ hb => by rcases hb with hb | hb; exact .inl hb.1; exact .inr (by have := hb.1; omega)) _ _ _ _ _ HJ.out.tree
    · have hg0 : ((L.at_.length : Int) == 0) = false := by simp; intro e; simp [e] at h0
      have hap : 0 < L.at_.length := by omega
      by_cases hmf : L.same = false ∨ (L.first.fix = 3 ∧ 1 < L.at_.length)
      · have HRES : Hid (Lfc.refBody l (Lfc.refP l m) s = .error 22) := Lib.hid (by unfold Lfc.refBody; rw [HLE.out, if_neg h0, if_pos hmf])
        have qrz := ((HI.out.bel).block _ (lt_of_block QR.out)).trans QR.out
        obtain ⟨s1, s2, s3, s4, g1, g2, g3, g4, ⟨y0, y1, y2, y3⟩, ⟨f0, f1, f2, f3⟩, hq, ho⟩ := put4 (W := wc) qrz (.int .i64 0) (S []) (.int .i64 0) (.slice none 0 0)
        have HQ := Lib.hid hq
        have HB := Lib.hid (Oth.below (BC.out) ho (Nat.le_refl _) (BC.out).size)
        clear hq ho qrz
        have hway : Lfc.mixOf L = true ∨ (Lfc.mixOf L = false ∧ (L.first.fix == 3) = true ∧ (1 : Int) < (L.at_.length : Int)) := by
          unfold Lfc.mixOf
          rw [if_neg h0]
          cases e : L.same
          · exact .inl rfl
          · refine .inr ⟨rfl, ?_⟩
            rcases hmf with h | h
            · rw [e] at h; cases h
            · exact ⟨by simp [h.1], by omega⟩
        clear h0 hmf
        generalize Lfc.mixOf L = mx at *
        rcases hway with rfl | ⟨rfl, hf3, hl3⟩
        all_goals
          go_wp2_with fail
          refine bodyPost_ret (results_raw2 rfl _ _ _ _ _ _ _ rfl HQ.out) rfl ?_
          unfold RefPost
          rw [HRES.out]
          exact ⟨rfl, HB.out⟩
      · have hsm : L.same = true := by
          cases e : L.same
          · exact absurd (.inl e) hmf
          · rfl
        have hmx : Lfc.mixOf L = false := by unfold Lfc.mixOf; rw [if_neg h0, hsm]; rfl
        have HRB : Hid (Lfc.refBody l (Lfc.refP l m) s = if L.first.fix = 1 then Lfc.unT (Lfc.refP l m) (s.getD 0 Lfc.opdZ).tree (s.drop 1) (decide (L.at_[0] = 0)) else if L.first.fix = 2 then Lfc.unT (Lfc.refP l m) (s.getD L.at_[L.at_.length - 1] Lfc.opdZ).tree (s.take L.at_[L.at_.length - 1]) (decide (L.at_[L.at_.length - 1] = s.length - 1)) else Lfc.splitT (Lfc.refP l m) s (if L.first.fix = 4 then L.at_[L.at_.length - 1] else L.at_[0])) := Lib.hid (by
          unfold Lfc.refBody
          rw [HLE.out, if_neg h0, if_neg hmf, last_get hap, head_get hap])
        have hf3 : (L.first.fix == 3) = true → L.at_.length ≤ 1 := fun e => by
          rcases Nat.lt_or_ge 1 L.at_.length with h | h
          · exact absurd (.inr ⟨by simpa using e, h⟩) hmf
          · exact h
        have HF3 := Lib.hid hf3
        obtain ⟨gp, rfl, hgc⟩ : ∃ gp, A' = some ⟨gp, 0, none⟩ ∧ ∀ i (h : i < L.at_.length), wc.cell? ⟨gp, i, none⟩ = some (.int .i64 ((L.at_[i] : Nat) : Int)) := by
          rcases HI.out.own.2 with ⟨_, h2⟩ | ⟨g, cap, cur, hv, hbg', hg, _⟩
          · omega
          · injection hv with e1 _ e3
            subst e1 e3
            refine ⟨g, rfl, fun i h => ?_⟩
            have := own_cells HI.out.own i (.int .i64 ((L.at_[i] : Nat) : Int)) (by simp [natCells, h])
            rwa [Nat.zero_add] at this
        have p0 := hgc 0 hap
        have p1 := hgc (L.at_.length - 1) (by omega)
        have ha0 := HPLC.out.2 _ (List.getElem_mem hap)
        have hal := HPLC.out.2 _ (List.getElem_mem (show L.at_.length - 1 < L.at_.length by omega))
        have HOP : Hid (∀ i ∈ L.at_, ∃ o, Lfc.opOf l (s.getD i Lfc.opdZ) = some o) := Lib.hid (fun i hi => by
          rw [← HLE.out] at hi
          obtain ⟨h1, o, ho, _⟩ := Lfc.low_get l s i hi
          exact ⟨o, by simp [h1, ho]⟩)
        have hop0 := HOP.out _ (List.getElem_mem hap)
        have hopl := HOP.out _ (List.getElem_mem (show L.at_.length - 1 < L.at_.length by omega))
        have HOP0 := Lib.hid hop0
        have HOPL := Lib.hid hopl
        have n0 : (0 : Int) < (L.at_.length : Int) := by omega
        have n1 : (0 : Int) ≤ (L.at_.length : Int) - 1 := by omega
        have n1' : (1 : Int) ≤ (L.at_.length : Int) := by omega
        have n2 : (L.at_.length : Int) - 1 < (L.at_.length : Int) := by omega
        have n3 : IntKind.i64.wrap ((L.at_.length : Int) - 1) = (L.at_.length : Int) - 1 := IntWalk.i64_in _ (by omega)
        have n4 : ((L.at_.length : Int) - 1).toNat = L.at_.length - 1 := by omega
        generalize L.at_[L.at_.length - 1] = al at *
        generalize L.at_[0] = a0 at *
        generalize Lfc.mixOf L = mx at *
        generalize L.first.fix = fx at *
        subst hmx
        clear h0 hmf hsm hgc hf3 hop0 hopl HPLC
        have bd : Below w0.heap.size w0 wc.drew := B0C.out.drew
        have HBD := Lib.hid bd
        by_cases f1 : fx = 1
        · subst f1
          have hz3 : ((1 : Int) == 3) = false := rfl
          rw [if_pos rfl] at HRB
          by_cases ha : a0 = 0
          · have ha1 : ((a0 : Int) != 0) = false := by simp [ha]
            have ha2 : ((a0 : Int) == 0) = true := by simp [ha]
            obtain ⟨A3, c3, hsl, hA3, hc3⟩ := slice_from hpos hc HS.out
            obtain ⟨rs, hrs⟩ : ∃ rs, s.drop 1 = rs := ⟨_, rfl⟩
            have hrl : rs.length ≤ m ∧ rs.length ≤ 1000000 := by rw [← hrs, List.length_drop]; omega
            obtain ⟨k, n, p, us, Bo, co, hnd, hfc, htt⟩ := opd_at (w := w) HS.out hb00 hpos
            simp only [Nat.zero_mul, Nat.add_zero] at hfc
            have HRB2 : Hid (Lfc.refBody l (Lfc.refP l m) s = Lfc.unT (Lfc.refP l m) s[0].tree rs true) := Lib.hid (by
              have e := HRB.out
              rw [hrs, decide_eq_true ha, show s.getD 0 Lfc.opdZ = s[0] by simp [hpos]] at e
              exact e)
            rw [hrs] at hsl hA3 hc3
            have CR := Lib.hid (IH.out rs A3 c3 wc.drew hrl.1 hrl.2 hc3 hA3 HBD.out)
            clear hrs ha hA3 hc3 hrl HRB
            cases hres : Lfc.refP l m rs with
            | error e =>
              have HRES : Hid (Lfc.refBody l (Lfc.refP l m) s = .error e) := Lib.hid (by rw [HRB2.out]; unfold Lfc.unT; rw [hres]; rfl)
              have hek := refP_err _ _ _ _ hres
              have he0 : (e != 0) = true := by rcases hek with rfl | rfl <;> rfl
              have he1 : (e == 0) = false := by rcases hek with rfl | rfl <;> rfl
              clear hek
              rw [hres] at CR
              unfold RefPost at CR
              simp only at CR
              clear hres
              go_wp2_with fail
              go_region
              go_wp2_with fail
              refine CR.out.mono ?_
              rintro ee w5 ⟨rfl, b5⟩
              obtain ⟨w6, hw6⟩ : ∃ w6, w5.alloc (.cells #[.int .i64 0, S [], .int .i64 0, .slice none 0 0] 39) = w6 := ⟨_, rfl⟩
              have b6 : Below w5.heap.size w5 w6 := by rw [← hw6]; exact (Below.refl _ _).alloc (Nat.le_refl _) _
              have q6 : w6.heap[w5.heap.size]? = some (.cells #[.int .i64 0, S [], .int .i64 0, .slice none 0 0] 39 (0, 0)) := by rw [← hw6]; exact heap_alloc_new _ _
              have bc6 : Below wc.heap.size wc w6 := ((Below.refl wc.heap.size wc).drew).trans ((b5.trans (b6.mono b5.size)).mono ((Below.refl wc.heap.size wc).drew).size)
              have HW6 := Lib.hid hw6
              clear hw6 b5 b6 q6 CR
              go_upto_region 31 with fail
              rw [HW6.out]
              have bcW : Below wc.heap.size wc w6 := bc6
              have qrz := (bcW.block _ hws).trans ((HI.out.bel.block _ (lt_of_block QR.out)).trans QR.out)
              have bwW := BC.out.trans (bcW.mono BC.out.size)
              obtain ⟨s1, s2, s3, s4, g1, g2, g3, g4, ⟨y0, y1, y2, y3⟩, ⟨f0, f1, f2, f3⟩, hq, ho⟩ := put4 qrz (.int .i64 0) (S []) (.int .i64 0) (.slice none 0 0)
              have HQ := Lib.hid hq
              have HB := Lib.hid (Oth.below bwW ho (Nat.le_refl _) bwW.size)
              clear hq ho qrz bwW bcW
              go_wp2_with fail
              refine bodyPost_ret (results_raw2 rfl _ _ _ _ _ _ _ rfl HQ.out) rfl ?_
              unfold RefPost
              rw [HRES.out]
              exact ⟨rfl, HB.out⟩
            | ok t7 =>
              have HRES : Hid (Lfc.refBody l (Lfc.refP l m) s = .ok (Lfc.appT s[0].tree t7)) := Lib.hid (by rw [HRB2.out]; unfold Lfc.unT; rw [hres]; rfl)
              rw [hres] at CR
              unfold RefPost at CR
              simp only at CR
              clear hres
              go_wp2_with fail
              go_region
              go_wp2_with fail
              refine CR.out.mono ?_
              rintro ee w5 ⟨⟨v5, rfl, hv5⟩, b5⟩
              obtain ⟨k7, n7, p7, us7, A7, c7, e5, rfl, tp5⟩ := (ref_of (w := w) hws hv5).parts4
              obtain ⟨w6, hw6⟩ : ∃ w6, w5.alloc (.cells #[.int .i64 k7, S n7, .int .i64 p7, .slice A7 us7.length c7] 39) = w6 := ⟨_, rfl⟩
              have b6 : Below w5.heap.size w5 w6 := by rw [← hw6]; exact (Below.refl _ _).alloc (Nat.le_refl _) _
              have q7 : w6.heap[w5.heap.size]? = some (.cells #[.int .i64 k7, S n7, .int .i64 p7, .slice A7 us7.length c7] 39 (0, 0)) := by rw [← hw6]; exact heap_alloc_new _ _
              have bc7 : Below wc.heap.size wc w6 := ((Below.refl wc.heap.size wc).drew).trans ((b5.trans (b6.mono b5.size)).mono ((Below.refl wc.heap.size wc).drew).size)
              have TV7 : Hid (TreeVP (Q0 w0 w) w6 t7 (.agg #[.int .i64 k7, S n7, .int .i64 p7, .slice A7 us7.length c7])) := Lib.hid (ref_keep b6 ⟨_, _, _, _, rfl, tp5⟩)
              have hg7 : w.heap.size < w5.heap.size := by have := (((Below.refl wc.heap.size wc).drew).trans (b5.mono ((Below.refl wc.heap.size wc).drew).size)).size; omega
              have Q7 := Lib.hid q7
              have BCX7 := Lib.hid bc7
              have HW7 := Lib.hid hw6
              have BB7 := Lib.hid (b5.trans (b6.mono b5.size))
              clear hw6 b5 b6 q7 bc7 CR hv5 tp5 e5
              have B06 := Lib.hid (B0C.out.trans (BCX7.out.mono B0C.out.size))
              have SC : Hid (∀ W, Oth w.heap.size w6 W → (W.cell? ⟨b0, o0, none⟩ = some (.int .i64 k) ∧ W.cell? ⟨b0, o0 + 1, none⟩ = some (S n) ∧ W.cell? ⟨b0, o0 + 2, none⟩ = some (.int .i64 p) ∧ W.cell? ⟨b0, o0 + 3, none⟩ = some (.slice Bo us.length co)) ∧ (W.cell? ⟨w5.heap.size, 0, none⟩ = some (.int .i64 k7) ∧ W.cell? ⟨w5.heap.size, 1, none⟩ = some (S n7) ∧ W.cell? ⟨w5.heap.size, 2, none⟩ = some (.int .i64 p7) ∧ W.cell? ⟨w5.heap.size, 3, none⟩ = some (.slice A7 us7.length c7))) := Lib.hid (fun W ho => by
                obtain ⟨e0, e1, e2, e3, _⟩ := hfc W (Oth.below B06.out ho hs0 B06.out.size)
                exact ⟨⟨e0, e1, e2, e3⟩, cells4 (ho.heap Q7.out (by omega))⟩)
              have T1 : Hid (TreeVP (Q0 w0 w) w6.drew s[0].tree (.agg #[.int .i64 k, S n, .int .i64 p, .slice Bo us.length co])) := Lib.hid (by rw [hnd]; exact (htt w6.drew B06.out.drew).1)
              have T2 := Lib.hid (ref_keep ((Below.refl w6.heap.size w6).drew) TV7.out)
              have hw6s : w.heap.size < w6.drew.heap.size := by have := BCX7.out.size; simp; omega
              have G0 : Oth w.heap.size w6 w6.drew := (Oth.refl _ _).drew
              have GB : Below wc.heap.size wc w6.drew := BCX7.out.drew
              clear hfc htt hnd
              go_upto_region 31 with fail
              rw [HW7.out]
              go_wp2_with fail
              go_region_held3 (fun W => (W.cell? ⟨b0, o0, none⟩ = some (.int .i64 k) ∧ W.cell? ⟨b0, o0 + 1, none⟩ = some (S n) ∧ W.cell? ⟨b0, o0 + 2, none⟩ = some (.int .i64 p) ∧ W.cell? ⟨b0, o0 + 3, none⟩ = some (.slice Bo us.length co)) ∧ (W.cell? ⟨w5.heap.size, 0, none⟩ = some (.int .i64 k7) ∧ W.cell? ⟨w5.heap.size, 1, none⟩ = some (S n7) ∧ W.cell? ⟨w5.heap.size, 2, none⟩ = some (.int .i64 p7) ∧ W.cell? ⟨w5.heap.size, 3, none⟩ = some (.slice A7 us7.length c7)))
                (first | exact SC.out _ G0 | exact SC.out _ oo8 | exact SC.out _ oo9)
                (first
                  | (go_at_call 57; refine (rApp_ref (w0 := w0) (w := w) s[0].tree t7 _ _ _ hw6s T1.out T2.out).mono ?_; rintro e w8 ⟨⟨v8, rfl, hv8⟩, hb8⟩; obtain ⟨k8, n8, p8, us8, A8, c8, ht8, rfl, hp8⟩ := hv8.parts4; have VF : Hid (TreeVP (Q0 w0 w) w8 _ (.agg #[.int .i64 k8, S n8, .int .i64 p8, .slice A8 us8.length c8])) := Lib.hid ⟨_, _, _, _, rfl, hp8⟩; have oo8 := G0.trans (Oth.of_below hb8); have bcW : Below wc.heap.size wc w8 := (GB.trans (hb8.mono GB.size)); have bwW := BC.out.trans (bcW.mono BC.out.size); obtain ⟨s1, s2, s3, s4, g1, g2, g3, g4, ⟨y0, y1, y2, y3⟩, ⟨f0, f1, f2, f3⟩, hq, ho⟩ := put4 ((bcW.block _ hws).trans ((HI.out.bel.block _ (lt_of_block QR.out)).trans QR.out)) (.int .i64 k8) (S n8) (.int .i64 p8) (.slice A8 us8.length c8); have HQ := Lib.hid hq; have HO := Lib.hid ho; have HB := Lib.hid (Oth.below bwW ho (Nat.le_refl _) bwW.size); have oo9 := oo8.trans ho; clear hv8 hp8 ht8 hq))
              all_goals
                go_wp2_with fail
                refine bodyPost_ret (results_raw2 rfl _ _ _ _ _ _ _ rfl HQ.out) rfl ?_
                unfold RefPost
                rw [HRES.out]
                exact ⟨⟨_, rfl, ref_fin hs0 HO.out VF.out⟩, HB.out⟩
          · have ha1 : ((a0 : Int) != 0) = true := by simp; omega
            have ha2 : ((a0 : Int) == 0) = false := by simp; omega
            have HRES : Hid (Lfc.refBody l (Lfc.refP l m) s = .error 21) := Lib.hid (by
              have e := HRB.out
              rw [decide_eq_false ha] at e
              exact e)
            clear ha HRB
            go_wp2_with fail
            go_region
            have bcW : Below wc.heap.size wc wc.drew := (Below.refl wc.heap.size wc).drew
            have qrz := (bcW.block _ hws).trans ((HI.out.bel.block _ (lt_of_block QR.out)).trans QR.out)
            have bwW := BC.out.trans (bcW.mono BC.out.size)
            obtain ⟨s1, s2, s3, s4, g1, g2, g3, g4, ⟨y0, y1, y2, y3⟩, ⟨f0, f1, f2, f3⟩, hq, ho⟩ := put4 qrz (.int .i64 0) (S []) (.int .i64 0) (.slice none 0 0)
            have HQ := Lib.hid hq
            have HB := Lib.hid (Oth.below bwW ho (Nat.le_refl _) bwW.size)
            clear hq ho qrz bwW bcW
            go_wp2_with fail
            refine bodyPost_ret (results_raw2 rfl _ _ _ _ _ _ _ rfl HQ.out) rfl ?_
            unfold RefPost
            rw [HRES.out]
            exact ⟨rfl, HB.out⟩
        · by_cases f2 : fx = 2
          · subst f2
            have hz3 : ((2 : Int) == 3) = false := rfl
            rw [if_neg (by omega), if_pos rfl] at HRB
            by_cases ha : al = s.length - 1
            · have ha1 : ((al : Int) != (s.length : Int) - 1) = false := by simp; omega
              have ha2 : ((al : Int) == (s.length : Int) - 1) = true := by simp; omega
              obtain ⟨A3, c3, hsl, hA3, hc3⟩ := slice_hi (i := al) (by omega) hc HS.out
              obtain ⟨rs, hrs⟩ : ∃ rs, s.take al = rs := ⟨_, rfl⟩
              have hrl : rs.length ≤ m ∧ rs.length ≤ 1000000 := by rw [← hrs, List.length_take]; omega
              obtain ⟨k, n, p, us, Bo, co, hnd, hfc, htt⟩ := opd_at (w := w) HS.out hb00 hal
              have HRB2 : Hid (Lfc.refBody l (Lfc.refP l m) s = Lfc.unT (Lfc.refP l m) s[al].tree rs true) := Lib.hid (by
                have e := HRB.out
                rw [hrs, decide_eq_true ha, show s.getD al Lfc.opdZ = s[al] by simp [hal]] at e
                exact e)
              rw [hrs] at hsl hA3 hc3
              have CR := Lib.hid (IH.out rs A3 c3 wc.drew hrl.1 hrl.2 hc3 hA3 HBD.out)
              have hi0 : (0 : Int) ≤ (al : Int) := Int.natCast_nonneg _
              have hi1 : (al : Int) < (s.length : Int) := by omega
              clear hrs ha hA3 hc3 hrl HRB
              cases hres : Lfc.refP l m rs with
              | error e =>
                have HRES : Hid (Lfc.refBody l (Lfc.refP l m) s = .error e) := Lib.hid (by rw [HRB2.out]; unfold Lfc.unT; rw [hres]; rfl)
                have hek := refP_err _ _ _ _ hres
                have he0 : (e != 0) = true := by rcases hek with rfl | rfl <;> rfl
                have he1 : (e == 0) = false := by rcases hek with rfl | rfl <;> rfl
                clear hek
                rw [hres] at CR
                unfold RefPost at CR
                simp only at CR
                clear hres
                go_wp2_with fail
                go_region
                go_wp2_with fail
                refine CR.out.mono ?_
                rintro ee w5 ⟨rfl, b5⟩
                obtain ⟨w6, hw6⟩ : ∃ w6, w5.alloc (.cells #[.int .i64 0, S [], .int .i64 0, .slice none 0 0] 39) = w6 := ⟨_, rfl⟩
                have b6 : Below w5.heap.size w5 w6 := by rw [← hw6]; exact (Below.refl _ _).alloc (Nat.le_refl _) _
                have q6 : w6.heap[w5.heap.size]? = some (.cells #[.int .i64 0, S [], .int .i64 0, .slice none 0 0] 39 (0, 0)) := by rw [← hw6]; exact heap_alloc_new _ _
                have bc6 : Below wc.heap.size wc w6 := ((Below.refl wc.heap.size wc).drew).trans ((b5.trans (b6.mono b5.size)).mono ((Below.refl wc.heap.size wc).drew).size)
                have HW6 := Lib.hid hw6
                clear hw6 b5 b6 q6 CR
                go_upto_region 38 with fail
                rw [HW6.out]
                have bcW : Below wc.heap.size wc w6 := bc6
                have qrz := (bcW.block _ hws).trans ((HI.out.bel.block _ (lt_of_block QR.out)).trans QR.out)
                have bwW := BC.out.trans (bcW.mono BC.out.size)
                obtain ⟨s1, s2, s3, s4, g1, g2, g3, g4, ⟨y0, y1, y2, y3⟩, ⟨f0, f1, f2, f3⟩, hq, ho⟩ := put4 qrz (.int .i64 0) (S []) (.int .i64 0) (.slice none 0 0)
                have HQ := Lib.hid hq
                have HB := Lib.hid (Oth.below bwW ho (Nat.le_refl _) bwW.size)
                clear hq ho qrz bwW bcW
                go_wp2_with fail
                refine bodyPost_ret (results_raw2 rfl _ _ _ _ _ _ _ rfl HQ.out) rfl ?_
                unfold RefPost
                rw [HRES.out]
                exact ⟨rfl, HB.out⟩
              | ok t7 =>
                have HRES : Hid (Lfc.refBody l (Lfc.refP l m) s = .ok (Lfc.appT s[al].tree t7)) := Lib.hid (by rw [HRB2.out]; unfold Lfc.unT; rw [hres]; rfl)
                rw [hres] at CR
                unfold RefPost at CR
                simp only at CR
                clear hres
                go_wp2_with fail
                go_region
                go_wp2_with fail
                refine CR.out.mono ?_
                rintro ee w5 ⟨⟨v5, rfl, hv5⟩, b5⟩
                obtain ⟨k7, n7, p7, us7, A7, c7, e5, rfl, tp5⟩ := (ref_of (w := w) hws hv5).parts4
                obtain ⟨w6, hw6⟩ : ∃ w6, w5.alloc (.cells #[.int .i64 k7, S n7, .int .i64 p7, .slice A7 us7.length c7] 39) = w6 := ⟨_, rfl⟩
                have b6 : Below w5.heap.size w5 w6 := by rw [← hw6]; exact (Below.refl _ _).alloc (Nat.le_refl _) _
                have q7 : w6.heap[w5.heap.size]? = some (.cells #[.int .i64 k7, S n7, .int .i64 p7, .slice A7 us7.length c7] 39 (0, 0)) := by rw [← hw6]; exact heap_alloc_new _ _
                have bc7 : Below wc.heap.size wc w6 := ((Below.refl wc.heap.size wc).drew).trans ((b5.trans (b6.mono b5.size)).mono ((Below.refl wc.heap.size wc).drew).size)
                have TV7 : Hid (TreeVP (Q0 w0 w) w6 t7 (.agg #[.int .i64 k7, S n7, .int .i64 p7, .slice A7 us7.length c7])) := Lib.hid (ref_keep b6 ⟨_, _, _, _, rfl, tp5⟩)
                have hg7 : w.heap.size < w5.heap.size := by have := (((Below.refl wc.heap.size wc).drew).trans (b5.mono ((Below.refl wc.heap.size wc).drew).size)).size; omega
                have Q7 := Lib.hid q7
                have BCX7 := Lib.hid bc7
                have HW7 := Lib.hid hw6
                have BB7 := Lib.hid (b5.trans (b6.mono b5.size))
                clear hw6 b5 b6 q7 bc7 CR hv5 tp5 e5
                have B06 := Lib.hid (B0C.out.trans (BCX7.out.mono B0C.out.size))
                have SC : Hid (∀ W, Oth w.heap.size w6 W → (W.cell? ⟨b0, o0 + al * 5, none⟩ = some (.int .i64 k) ∧ W.cell? ⟨b0, o0 + al * 5 + 1, none⟩ = some (S n) ∧ W.cell? ⟨b0, o0 + al * 5 + 2, none⟩ = some (.int .i64 p) ∧ W.cell? ⟨b0, o0 + al * 5 + 3, none⟩ = some (.slice Bo us.length co)) ∧ (W.cell? ⟨w5.heap.size, 0, none⟩ = some (.int .i64 k7) ∧ W.cell? ⟨w5.heap.size, 1, none⟩ = some (S n7) ∧ W.cell? ⟨w5.heap.size, 2, none⟩ = some (.int .i64 p7) ∧ W.cell? ⟨w5.heap.size, 3, none⟩ = some (.slice A7 us7.length c7))) := Lib.hid (fun W ho => by
                  obtain ⟨e0, e1, e2, e3, _⟩ := hfc W (Oth.below B06.out ho hs0 B06.out.size)
                  exact ⟨⟨e0, e1, e2, e3⟩, cells4 (ho.heap Q7.out (by omega))⟩)
                have T1 : Hid (TreeVP (Q0 w0 w) w6.drew s[al].tree (.agg #[.int .i64 k, S n, .int .i64 p, .slice Bo us.length co])) := Lib.hid (by rw [hnd]; exact (htt w6.drew B06.out.drew).1)
                have T2 := Lib.hid (ref_keep ((Below.refl w6.heap.size w6).drew) TV7.out)
                have hw6s : w.heap.size < w6.drew.heap.size := by have := BCX7.out.size; simp; omega
                have G0 : Oth w.heap.size w6 w6.drew := (Oth.refl _ _).drew
                have GB : Below wc.heap.size wc w6.drew := BCX7.out.drew
                clear hfc htt hnd
                go_upto_region 38 with fail
                rw [HW7.out]
                go_wp2_with fail
                go_region_held3 (fun W => (W.cell? ⟨b0, o0 + al * 5, none⟩ = some (.int .i64 k) ∧ W.cell? ⟨b0, o0 + al * 5 + 1, none⟩ = some (S n) ∧ W.cell? ⟨b0, o0 + al * 5 + 2, none⟩ = some (.int .i64 p) ∧ W.cell? ⟨b0, o0 + al * 5 + 3, none⟩ = some (.slice Bo us.length co)) ∧ (W.cell? ⟨w5.heap.size, 0, none⟩ = some (.int .i64 k7) ∧ W.cell? ⟨w5.heap.size, 1, none⟩ = some (S n7) ∧ W.cell? ⟨w5.heap.size, 2, none⟩ = some (.int .i64 p7) ∧ W.cell? ⟨w5.heap.size, 3, none⟩ = some (.slice A7 us7.length c7)))
                  (first | exact SC.out _ G0 | exact SC.out _ oo8 | exact SC.out _ oo9)
                  (first
                    | (go_at_call 57; refine (rApp_ref (w0 := w0) (w := w) s[al].tree t7 _ _ _ hw6s T1.out T2.out).mono ?_; rintro e w8 ⟨⟨v8, rfl, hv8⟩, hb8⟩; obtain ⟨k8, n8, p8, us8, A8, c8, ht8, rfl, hp8⟩ := hv8.parts4; have VF : Hid (TreeVP (Q0 w0 w) w8 _ (.agg #[.int .i64 k8, S n8, .int .i64 p8, .slice A8 us8.length c8])) := Lib.hid ⟨_, _, _, _, rfl, hp8⟩; have oo8 := G0.trans (Oth.of_below hb8); have bcW : Below wc.heap.size wc w8 := (GB.trans (hb8.mono GB.size)); have bwW := BC.out.trans (bcW.mono BC.out.size); obtain ⟨s1, s2, s3, s4, g1, g2, g3, g4, ⟨y0, y1, y2, y3⟩, ⟨f0, f1, f2, f3⟩, hq, ho⟩ := put4 ((bcW.block _ hws).trans ((HI.out.bel.block _ (lt_of_block QR.out)).trans QR.out)) (.int .i64 k8) (S n8) (.int .i64 p8) (.slice A8 us8.length c8); have HQ := Lib.hid hq; have HO := Lib.hid ho; have HB := Lib.hid (Oth.below bwW ho (Nat.le_refl _) bwW.size); have oo9 := oo8.trans ho; clear hv8 hp8 ht8 hq))
                all_goals
                  go_wp2_with fail
                  refine bodyPost_ret (results_raw2 rfl _ _ _ _ _ _ _ rfl HQ.out) rfl ?_
                  unfold RefPost
                  rw [HRES.out]
                  exact ⟨⟨_, rfl, ref_fin hs0 HO.out VF.out⟩, HB.out⟩
            · have ha1 : ((al : Int) != (s.length : Int) - 1) = true := by simp; omega
              have ha2 : ((al : Int) == (s.length : Int) - 1) = false := by simp; omega
              have HRES : Hid (Lfc.refBody l (Lfc.refP l m) s = .error 21) := Lib.hid (by
                have e := HRB.out
                rw [decide_eq_false ha] at e
                exact e)
              clear ha HRB
              go_wp2_with fail
              go_region
              have bcW : Below wc.heap.size wc wc.drew := (Below.refl wc.heap.size wc).drew
              have qrz := (bcW.block _ hws).trans ((HI.out.bel.block _ (lt_of_block QR.out)).trans QR.out)
              have bwW := BC.out.trans (bcW.mono BC.out.size)
              obtain ⟨s1, s2, s3, s4, g1, g2, g3, g4, ⟨y0, y1, y2, y3⟩, ⟨f0, f1, f2, f3⟩, hq, ho⟩ := put4 qrz (.int .i64 0) (S []) (.int .i64 0) (.slice none 0 0)
              have HQ := Lib.hid hq
              have HB := Lib.hid (Oth.below bwW ho (Nat.le_refl _) bwW.size)
              clear hq ho qrz bwW bcW
              go_wp2_with fail
              refine bodyPost_ret (results_raw2 rfl _ _ _ _ _ _ _ rfl HQ.out) rfl ?_
              unfold RefPost
              rw [HRES.out]
              exact ⟨rfl, HB.out⟩
          · rw [if_neg f1, if_neg f2] at HRB
            have hf1 : (fx == 1) = false := by simpa using f1
            have hf2 : (fx == 2) = false := by simpa using f2
            obtain ⟨x, hxl, HXO, HX, hway⟩ : ∃ x, x < s.length ∧ Hid (∃ o, Lfc.opOf l (s.getD x Lfc.opdZ) = some o) ∧ Hid (Lfc.refBody l (Lfc.refP l m) s = Lfc.splitT (Lfc.refP l m) s x) ∧ (((fx == 3) = true ∧ (L.at_.length : Int) ≤ 1 ∧ (fx == 4) = false ∧ x = a0) ∨ ((fx == 3) = false ∧ (fx == 4) = true ∧ x = al) ∨ ((fx == 3) = false ∧ (fx == 4) = false ∧ x = a0)) := by
              by_cases f4 : fx = 4
              · refine ⟨al, hal, HOPL, Lib.hid (by rw [HRB.out, if_pos f4]), .inr (.inl ⟨by simp [f4], by simp [f4], rfl⟩)⟩
              · refine ⟨a0, ha0, HOP0, Lib.hid (by rw [HRB.out, if_neg f4]), ?_⟩
                by_cases f3 : fx = 3
                · have := HF3.out (by simpa using f3)
                  exact .inl ⟨by simp [f3], by omega, by simp [f3], rfl⟩
                · exact .inr (.inr ⟨by simpa using f3, by simpa using f4, rfl⟩)
            clear f1 f2 HRB HOP0 HOPL HOP HF3
            obtain ⟨A3, c3, hsl1, hA3, hc3⟩ := slice_hi (i := x) (by omega) hc HS.out
            obtain ⟨A4, c4, hsl2, hA4, hc4⟩ := slice_lo (i := x + 1) (by omega) hc HS.out
            obtain ⟨rs1, hrs1⟩ : ∃ rs1, s.take x = rs1 := ⟨_, rfl⟩
            obtain ⟨rs2, hrs2⟩ : ∃ rs2, s.drop (x + 1) = rs2 := ⟨_, rfl⟩
            have hrl1 : rs1.length ≤ m ∧ rs1.length ≤ 1000000 := by rw [← hrs1, List.length_take]; omega
            have hrl2 : rs2.length ≤ m ∧ rs2.length ≤ 1000000 := by rw [← hrs2, List.length_drop]; omega
            obtain ⟨k, n, p, us, Bo, co, hnd, hfc, htt⟩ := opd_at (w := w) HS.out hb00 hxl
            have HG : Hid (s.getD x Lfc.opdZ = s[x]) := Lib.hid (by simp [hxl])
            have hxx : s[x].closed = false ∧ k = 1 := by
              obtain ⟨o, ho⟩ := HXO.out
              rw [HG.out] at ho
              unfold Lfc.opOf at ho
              split at ho
              · cases ho
              · rename_i h
                rw [hnd] at h
                simp only [Lfc.Raw.kind, Bool.or_eq_true, decide_eq_true_eq, not_or, Bool.not_eq_true] at h
                exact ⟨h.1, Classical.not_not.1 (of_decide_eq_false h.2)⟩
            obtain ⟨hcl, rfl⟩ := hxx
            rw [hrs1] at hsl1 hA3 hc3
            rw [hrs2] at hsl2 hA4 hc4
            rw [show ((x + 1 : Nat) : Int) = (x : Int) + 1 by omega] at hsl2
            have HXX : Hid (Lfc.refBody l (Lfc.refP l m) s = match Lfc.refP l m rs1 with
              | .error e => .error e
              | .ok a => match Lfc.refP l m rs2 with
                | .error e => .error e
                | .ok b => .ok (Lfc.joinT s[x].tree a b)) := Lib.hid (by rw [HX.out]; unfold Lfc.splitT; rw [hrs1, hrs2, HG.out]; rfl)
            have C1 := Lib.hid (IH.out rs1 A3 c3 wc.drew hrl1.1 hrl1.2 hc3 hA3 HBD.out)
            have C2 := Lib.hid (fun W hW => IH.out rs2 A4 c4 W hrl2.1 hrl2.2 hc4 hA4 hW)
            have hi0 : (0 : Int) ≤ (x : Int) := Int.natCast_nonneg _
            have hi1 : (x : Int) < (s.length : Int) := by omega
            have hi2 : (0 : Int) ≤ (x : Int) + 1 := by omega
            have hi3 : IntKind.i64.wrap ((x : Int) + 1) = (x : Int) + 1 := IntWalk.i64_in _ (by omega)
            have HFC := Lib.hid hfc
            have HTT := Lib.hid htt
            clear hrs1 hrs2 hA3 hA4 hc3 hc4 hrl1 hrl2 HX HXO HG hfc htt
            cases hres : Lfc.refP l m rs1 with
            | error e =>
              have HRES : Hid (Lfc.refBody l (Lfc.refP l m) s = .error e) := Lib.hid (by rw [HXX.out, hres])
              clear C2
              rcases hway with ⟨hz3, hz3', hz4, rfl⟩ | ⟨hz3, hz4, rfl⟩ | ⟨hz3, hz4, rfl⟩
              all_goals
                have hek := refP_err _ _ _ _ hres
                have he0 : (e != 0) = true := by rcases hek with rfl | rfl <;> rfl
                have he1 : (e == 0) = false := by rcases hek with rfl | rfl <;> rfl
                clear hek
                rw [hres] at C1
                unfold RefPost at C1
                simp only at C1
                clear hres
                go_wp2_with fail
                go_region
                go_wp2_with fail
                refine C1.out.mono ?_
                rintro ee w5 ⟨rfl, b5⟩
                obtain ⟨w6, hw6⟩ : ∃ w6, w5.alloc (.cells #[.int .i64 0, S [], .int .i64 0, .slice none 0 0] 39) = w6 := ⟨_, rfl⟩
                have b6 : Below w5.heap.size w5 w6 := by rw [← hw6]; exact (Below.refl _ _).alloc (Nat.le_refl _) _
                have q6 : w6.heap[w5.heap.size]? = some (.cells #[.int .i64 0, S [], .int .i64 0, .slice none 0 0] 39 (0, 0)) := by rw [← hw6]; exact heap_alloc_new _ _
                have bc6 : Below wc.heap.size wc w6 := ((Below.refl wc.heap.size wc).drew).trans ((b5.trans (b6.mono b5.size)).mono ((Below.refl wc.heap.size wc).drew).size)
                have HW6 := Lib.hid hw6
                clear hw6 b5 b6 q6 C1
                go_upto_region 44 with fail
                rw [HW6.out]
                have bcW : Below wc.heap.size wc w6 := bc6
                have qrz := (bcW.block _ hws).trans ((HI.out.bel.block _ (lt_of_block QR.out)).trans QR.out)
                have bwW := BC.out.trans (bcW.mono BC.out.size)
                obtain ⟨s1, s2, s3, s4, g1, g2, g3, g4, ⟨y0, y1, y2, y3⟩, ⟨f0, f1, f2, f3⟩, hq, ho⟩ := put4 qrz (.int .i64 0) (S []) (.int .i64 0) (.slice none 0 0)
                have HQ := Lib.hid hq
                have HB := Lib.hid (Oth.below bwW ho (Nat.le_refl _) bwW.size)
                clear hq ho qrz bwW bcW
                go_wp2_with fail
                refine bodyPost_ret (results_raw2 rfl _ _ _ _ _ _ _ rfl HQ.out) rfl ?_
                unfold RefPost
                rw [HRES.out]
                exact ⟨rfl, HB.out⟩
            | ok t5 =>
              have HX5 : Hid (Lfc.refBody l (Lfc.refP l m) s = match Lfc.refP l m rs2 with
                | .error e => .error e
                | .ok b => .ok (Lfc.joinT s[x].tree t5 b)) := Lib.hid (by rw [HXX.out, hres])
              clear HXX
              rcases hway with ⟨hz3, hz3', hz4, rfl⟩ | ⟨hz3, hz4, rfl⟩ | ⟨hz3, hz4, rfl⟩
              all_goals
                rw [hres] at C1
                unfold RefPost at C1
                simp only at C1
                clear hres
                go_wp2_with fail
                go_region
                go_wp2_with fail
                refine C1.out.mono ?_
                rintro ee w5 ⟨⟨v5, rfl, hv5⟩, b5⟩
                obtain ⟨k5, n5, p5, us5, A5, c5, e5, rfl, tp5⟩ := (ref_of (w := w) hws hv5).parts4
                obtain ⟨w6, hw6⟩ : ∃ w6, w5.alloc (.cells #[.int .i64 k5, S n5, .int .i64 p5, .slice A5 us5.length c5] 39) = w6 := ⟨_, rfl⟩
                have b6 : Below w5.heap.size w5 w6 := by rw [← hw6]; exact (Below.refl _ _).alloc (Nat.le_refl _) _
                have q5 : w6.heap[w5.heap.size]? = some (.cells #[.int .i64 k5, S n5, .int .i64 p5, .slice A5 us5.length c5] 39 (0, 0)) := by rw [← hw6]; exact heap_alloc_new _ _
                have bc5 : Below wc.heap.size wc w6 := ((Below.refl wc.heap.size wc).drew).trans ((b5.trans (b6.mono b5.size)).mono ((Below.refl wc.heap.size wc).drew).size)
                have TV5 : Hid (TreeVP (Q0 w0 w) w6 t5 (.agg #[.int .i64 k5, S n5, .int .i64 p5, .slice A5 us5.length c5])) := Lib.hid (ref_keep b6 ⟨_, _, _, _, rfl, tp5⟩)
                have hg5 : w.heap.size < w5.heap.size := by have := (((Below.refl wc.heap.size wc).drew).trans (b5.mono ((Below.refl wc.heap.size wc).drew).size)).size; omega
                have Q5 := Lib.hid q5
                have BCX5 := Lib.hid bc5
                have HW5 := Lib.hid hw6
                have BB5 := Lib.hid (b5.trans (b6.mono b5.size))
                clear hw6 b5 b6 q5 bc5 C1 hv5 tp5 e5
                have B06 := Lib.hid (B0C.out.trans (BCX5.out.mono B0C.out.size))
                have hw6s : w.heap.size < w6.heap.size := by have := BCX5.out.size; omega
                have CB := Lib.hid (C2.out w6 B06.out)
                clear C2
                cases hres : Lfc.refP l m rs2 with
                | error e =>
                  have HRES : Hid (Lfc.refBody l (Lfc.refP l m) s = .error e) := Lib.hid (by rw [HX5.out, hres])
                  have hek := refP_err _ _ _ _ hres
                  have he0 : (e != 0) = true := by rcases hek with rfl | rfl <;> rfl
                  have he1 : (e == 0) = false := by rcases hek with rfl | rfl <;> rfl
                  clear hek
                  rw [hres] at CB
                  unfold RefPost at CB
                  simp only at CB
                  clear hres
                  go_upto_region 44 with fail
                  rw [HW5.out]
                  go_wp2_with fail
                  refine CB.out.mono ?_
                  rintro ee w7 ⟨rfl, b5⟩
                  obtain ⟨w8, hw6⟩ : ∃ w8, w7.alloc (.cells #[.int .i64 0, S [], .int .i64 0, .slice none 0 0] 39) = w8 := ⟨_, rfl⟩
                  have b6 : Below w7.heap.size w7 w8 := by rw [← hw6]; exact (Below.refl _ _).alloc (Nat.le_refl _) _
                  have q6 : w8.heap[w7.heap.size]? = some (.cells #[.int .i64 0, S [], .int .i64 0, .slice none 0 0] 39 (0, 0)) := by rw [← hw6]; exact heap_alloc_new _ _
                  have bc6 : Below wc.heap.size wc w8 := BCX5.out.trans ((b5.trans (b6.mono b5.size)).mono BCX5.out.size)
                  have HW6 := Lib.hid hw6
                  clear hw6 b5 b6 q6 CB
                  go_upto_region 47 with fail
                  rw [HW6.out]
                  have bcW : Below wc.heap.size wc w8 := bc6
                  have qrz := (bcW.block _ hws).trans ((HI.out.bel.block _ (lt_of_block QR.out)).trans QR.out)
                  have bwW := BC.out.trans (bcW.mono BC.out.size)
                  obtain ⟨s1, s2, s3, s4, g1, g2, g3, g4, ⟨y0, y1, y2, y3⟩, ⟨f0, f1, f2, f3⟩, hq, ho⟩ := put4 qrz (.int .i64 0) (S []) (.int .i64 0) (.slice none 0 0)
                  have HQ := Lib.hid hq
                  have HB := Lib.hid (Oth.below bwW ho (Nat.le_refl _) bwW.size)
                  clear hq ho qrz bwW bcW
                  go_wp2_with fail
                  refine bodyPost_ret (results_raw2 rfl _ _ _ _ _ _ _ rfl HQ.out) rfl ?_
                  unfold RefPost
                  rw [HRES.out]
                  exact ⟨rfl, HB.out⟩
                | ok t7 =>
                  have HSP : Hid (Lfc.refBody l (Lfc.refP l m) s = .ok (Lfc.joinT s[x].tree t5 t7)) := Lib.hid (by rw [HX5.out, hres])
                  rw [hres] at CB
                  unfold RefPost at CB
                  simp only at CB
                  clear hres
                  go_upto_region 44 with fail
                  rw [HW5.out]
                  go_wp2_with fail
                  refine CB.out.mono ?_
                  rintro ee w7 ⟨⟨v5, rfl, hv5⟩, b5⟩
                  obtain ⟨k7, n7, p7, us7, A7, c7, e5, rfl, tp5⟩ := (ref_of (w := w) hw6s hv5).parts4
                  obtain ⟨w8, hw6⟩ : ∃ w8, w7.alloc (.cells #[.int .i64 k7, S n7, .int .i64 p7, .slice A7 us7.length c7] 39) = w8 := ⟨_, rfl⟩
                  have b6 : Below w7.heap.size w7 w8 := by rw [← hw6]; exact (Below.refl _ _).alloc (Nat.le_refl _) _
                  have q7 : w8.heap[w7.heap.size]? = some (.cells #[.int .i64 k7, S n7, .int .i64 p7, .slice A7 us7.length c7] 39 (0, 0)) := by rw [← hw6]; exact heap_alloc_new _ _
                  have bc7 : Below wc.heap.size wc w8 := BCX5.out.trans ((b5.trans (b6.mono b5.size)).mono BCX5.out.size)
                  have TV7 : Hid (TreeVP (Q0 w0 w) w8 t7 (.agg #[.int .i64 k7, S n7, .int .i64 p7, .slice A7 us7.length c7])) := Lib.hid (ref_keep b6 ⟨_, _, _, _, rfl, tp5⟩)
                  have hg7 : w.heap.size < w7.heap.size := by have := (BCX5.out.trans (b5.mono BCX5.out.size)).size; omega
                  have Q7 := Lib.hid q7
                  have BCX7 := Lib.hid bc7
                  have HW7 := Lib.hid hw6
                  have BB7 := Lib.hid (b5.trans (b6.mono b5.size))
                  clear hw6 b5 b6 q7 bc7 CB hv5 tp5 e5
                  have B08 := Lib.hid (B0C.out.trans (BCX7.out.mono B0C.out.size))
                  have Q58 := Lib.hid ((BB7.out.block _ (lt_of_block Q5.out)).trans Q5.out)
                  have TV58 := Lib.hid (ref_keep BB7.out TV5.out)
                  have hfc := HFC.out
                  have htt := HTT.out
                  simp only [hcl] at hfc htt
                  obtain ⟨d0, d1, d2, d3, d4⟩ := hfc w8 B08.out
                  have CA := Lib.hid (rarrow_any s[x] _ w8 (htt w8 B08.out).2)
                  clear HFC HTT Q5 TV5 BB7 BCX5 HX5 hw6s B06 BB5
                  go_upto_region 47 with fail
                  rw [HW7.out]
                  by_cases hr : n = [45, 62]
                  · subst hr
                    have HRES : Hid (Lfc.refBody l (Lfc.refP l m) s = .ok (.node 6 [] p [t5, t7])) := Lib.hid (by rw [HSP.out, hnd]; exact congrArg Except.ok (ref_joinT_R 1 p us t5 t7))
                    have hrr : s[x].rarrow = true := by unfold Lfc.Opd.rarrow; rw [hnd, hcl]; rfl
                    rw [hrr] at CA
                    clear hrr
                    go_wp2_with fail
                    refine CA.out.mono ?_
                    rintro ee w9 ⟨rfl, b9⟩
                    have B09 := Lib.hid (B08.out.trans (b9.mono B08.out.size))
                    have BC9 := Lib.hid (BCX7.out.trans (b9.mono BCX7.out.size))
                    have SC : Hid (∀ W, Oth w.heap.size w9 W → W.cell? ⟨b0, o0 + x * 5 + 2, none⟩ = some (.int .i64 p) ∧ (W.cell? ⟨w5.heap.size, 0, none⟩ = some (.int .i64 k5) ∧ W.cell? ⟨w5.heap.size, 1, none⟩ = some (S n5) ∧ W.cell? ⟨w5.heap.size, 2, none⟩ = some (.int .i64 p5) ∧ W.cell? ⟨w5.heap.size, 3, none⟩ = some (.slice A5 us5.length c5)) ∧ (W.cell? ⟨w7.heap.size, 0, none⟩ = some (.int .i64 k7) ∧ W.cell? ⟨w7.heap.size, 1, none⟩ = some (S n7) ∧ W.cell? ⟨w7.heap.size, 2, none⟩ = some (.int .i64 p7) ∧ W.cell? ⟨w7.heap.size, 3, none⟩ = some (.slice A7 us7.length c7))) := Lib.hid (fun W ho => by
                      obtain ⟨e0, e1, e2, e3, _⟩ := hfc W (Oth.below B09.out ho hs0 B09.out.size)
                      exact ⟨e2, cells4 (ho.heap ((b9.block _ (lt_of_block Q58.out)).trans Q58.out) (by omega)), cells4 (ho.heap ((b9.block _ (lt_of_block Q7.out)).trans Q7.out) (by omega))⟩)
                    have bz : Below w9.heap.size w9 (w9.alloc (.cells #[.int .i64 k5, S n5, .int .i64 p5, .slice A5 us5.length c5, .int .i64 k7, S n7, .int .i64 p7, .slice A7 us7.length c7] 39)).drew := ((Below.refl _ _).alloc (Nat.le_refl _) _).drew
                    have TA := Lib.hid (ref_keep bz (ref_keep b9 TV58.out))
                    have TB := Lib.hid (ref_keep bz (ref_keep b9 TV7.out))
                    have bcW : Below wc.heap.size wc (w9.alloc (.cells #[.int .i64 k5, S n5, .int .i64 p5, .slice A5 us5.length c5, .int .i64 k7, S n7, .int .i64 p7, .slice A7 us7.length c7] 39)).drew := BC9.out.trans (bz.mono BC9.out.size)
                    have bwW := BC.out.trans (bcW.mono BC.out.size)
                    obtain ⟨s1, s2, s3, s4, g1, g2, g3, g4, ⟨y0, y1, y2, y3⟩, ⟨f0, f1', f2', f3⟩, hq, ho⟩ := put4 (W := (w9.alloc (.cells #[.int .i64 k5, S n5, .int .i64 p5, .slice A5 us5.length c5, .int .i64 k7, S n7, .int .i64 p7, .slice A7 us7.length c7] 39)).drew) ((bcW.block _ hws).trans ((HI.out.bel.block _ (lt_of_block QR.out)).trans QR.out)) (.int .i64 6) (S []) (.int .i64 p) (.slice (some ⟨w9.heap.size, 0, none⟩) 2 2)
                    have HQ := Lib.hid hq
                    have HO := Lib.hid ho
                    have HB := Lib.hid (Oth.below bwW ho (Nat.le_refl _) bwW.size)
                    have oA : Oth w.heap.size w9 (w9.alloc (.cells #[.int .i64 k5, S n5, .int .i64 p5, .slice A5 us5.length c5, .int .i64 k7, S n7, .int .i64 p7, .slice A7 us7.length c7] 39)).drew := Oth.of_below bz
                    have oS := oA.trans ho
                    have oG : Oth w.heap.size w9 w9.drew := (Oth.refl _ _).drew
                    have hs9 : w.heap.size < w9.heap.size := by have := BC9.out.size; omega
                    have QB : Hid ((w9.alloc (.cells #[.int .i64 k5, S n5, .int .i64 p5, .slice A5 us5.length c5, .int .i64 k7, S n7, .int .i64 p7, .slice A7 us7.length c7] 39)).drew.heap[w9.heap.size]? = some (.cells #[.int .i64 k5, S n5, .int .i64 p5, .slice A5 us5.length c5, .int .i64 k7, S n7, .int .i64 p7, .slice A7 us7.length c7] 39 (0, 0))) := Lib.hid (heap_alloc_new w9 _)
                    clear hq ho bwW bcW bz b9 hfc htt hnd
                    go_wp2_with fail
                    go_region_held3 (fun W => W.cell? ⟨b0, o0 + x * 5 + 2, none⟩ = some (.int .i64 p) ∧ (W.cell? ⟨w5.heap.size, 0, none⟩ = some (.int .i64 k5) ∧ W.cell? ⟨w5.heap.size, 1, none⟩ = some (S n5) ∧ W.cell? ⟨w5.heap.size, 2, none⟩ = some (.int .i64 p5) ∧ W.cell? ⟨w5.heap.size, 3, none⟩ = some (.slice A5 us5.length c5)) ∧ (W.cell? ⟨w7.heap.size, 0, none⟩ = some (.int .i64 k7) ∧ W.cell? ⟨w7.heap.size, 1, none⟩ = some (S n7) ∧ W.cell? ⟨w7.heap.size, 2, none⟩ = some (.int .i64 p7) ∧ W.cell? ⟨w7.heap.size, 3, none⟩ = some (.slice A7 us7.length c7)))
                      (first | exact SC.out _ oG | exact SC.out _ oA | exact SC.out _ oS)
                      (fail)
                    all_goals
                      go_wp2_with fail
                      refine bodyPost_ret (results_raw2 rfl _ _ _ _ _ _ _ rfl HQ.out) rfl ?_
                      unfold RefPost
                      rw [HRES.out]
                      obtain ⟨_, _, _, _, ea, ha⟩ := ref_fin hs0 HO.out TA.out
                      cases ea
                      obtain ⟨_, _, _, _, eb, hb⟩ := ref_fin hs0 HO.out TB.out
                      cases eb
                      exact ⟨⟨_, rfl, TreeVP.mk (ts := [t5, t7]) (by simp) (by simp) (treesAtP_two' ha hb (.inr (by omega)) (HO.out.heap QB.out (by omega)))⟩, HB.out⟩
                  · by_cases hl2 : n = [60, 45]
                    · subst hl2
                      have HRES : Hid (Lfc.refBody l (Lfc.refP l m) s = .ok (.node 6 [] p [t7, t5])) := Lib.hid (by rw [HSP.out, hnd]; exact congrArg Except.ok (ref_joinT_L 1 p us t5 t7))
                      have hrr : s[x].rarrow = true := by unfold Lfc.Opd.rarrow; rw [hnd, hcl]; rfl
                      rw [hrr] at CA
                      clear hrr
                      go_wp2_with fail
                      refine CA.out.mono ?_
                      rintro ee w9 ⟨rfl, b9⟩
                      have B09 := Lib.hid (B08.out.trans (b9.mono B08.out.size))
                      have BC9 := Lib.hid (BCX7.out.trans (b9.mono BCX7.out.size))
                      have SC : Hid (∀ W, Oth w.heap.size w9 W → W.cell? ⟨b0, o0 + x * 5 + 2, none⟩ = some (.int .i64 p) ∧ (W.cell? ⟨w5.heap.size, 0, none⟩ = some (.int .i64 k5) ∧ W.cell? ⟨w5.heap.size, 1, none⟩ = some (S n5) ∧ W.cell? ⟨w5.heap.size, 2, none⟩ = some (.int .i64 p5) ∧ W.cell? ⟨w5.heap.size, 3, none⟩ = some (.slice A5 us5.length c5)) ∧ (W.cell? ⟨w7.heap.size, 0, none⟩ = some (.int .i64 k7) ∧ W.cell? ⟨w7.heap.size, 1, none⟩ = some (S n7) ∧ W.cell? ⟨w7.heap.size, 2, none⟩ = some (.int .i64 p7) ∧ W.cell? ⟨w7.heap.size, 3, none⟩ = some (.slice A7 us7.length c7))) := Lib.hid (fun W ho => by
                        obtain ⟨e0, e1, e2, e3, _⟩ := hfc W (Oth.below B09.out ho hs0 B09.out.size)
                        exact ⟨e2, cells4 (ho.heap ((b9.block _ (lt_of_block Q58.out)).trans Q58.out) (by omega)), cells4 (ho.heap ((b9.block _ (lt_of_block Q7.out)).trans Q7.out) (by omega))⟩)
                      have bz : Below w9.heap.size w9 (w9.alloc (.cells #[.int .i64 k7, S n7, .int .i64 p7, .slice A7 us7.length c7, .int .i64 k5, S n5, .int .i64 p5, .slice A5 us5.length c5] 39)).drew := ((Below.refl _ _).alloc (Nat.le_refl _) _).drew
                      have TA := Lib.hid (ref_keep bz (ref_keep b9 TV58.out))
                      have TB := Lib.hid (ref_keep bz (ref_keep b9 TV7.out))
                      have bcW : Below wc.heap.size wc (w9.alloc (.cells #[.int .i64 k7, S n7, .int .i64 p7, .slice A7 us7.length c7, .int .i64 k5, S n5, .int .i64 p5, .slice A5 us5.length c5] 39)).drew := BC9.out.trans (bz.mono BC9.out.size)
                      have bwW := BC.out.trans (bcW.mono BC.out.size)
                      obtain ⟨s1, s2, s3, s4, g1, g2, g3, g4, ⟨y0, y1, y2, y3⟩, ⟨f0, f1', f2', f3⟩, hq, ho⟩ := put4 (W := (w9.alloc (.cells #[.int .i64 k7, S n7, .int .i64 p7, .slice A7 us7.length c7, .int .i64 k5, S n5, .int .i64 p5, .slice A5 us5.length c5] 39)).drew) ((bcW.block _ hws).trans ((HI.out.bel.block _ (lt_of_block QR.out)).trans QR.out)) (.int .i64 6) (S []) (.int .i64 p) (.slice (some ⟨w9.heap.size, 0, none⟩) 2 2)
                      have HQ := Lib.hid hq
                      have HO := Lib.hid ho
                      have HB := Lib.hid (Oth.below bwW ho (Nat.le_refl _) bwW.size)
                      have oA : Oth w.heap.size w9 (w9.alloc (.cells #[.int .i64 k7, S n7, .int .i64 p7, .slice A7 us7.length c7, .int .i64 k5, S n5, .int .i64 p5, .slice A5 us5.length c5] 39)).drew := Oth.of_below bz
                      have oS := oA.trans ho
                      have oG : Oth w.heap.size w9 w9.drew := (Oth.refl _ _).drew
                      have hs9 : w.heap.size < w9.heap.size := by have := BC9.out.size; omega
                      have QB : Hid ((w9.alloc (.cells #[.int .i64 k7, S n7, .int .i64 p7, .slice A7 us7.length c7, .int .i64 k5, S n5, .int .i64 p5, .slice A5 us5.length c5] 39)).drew.heap[w9.heap.size]? = some (.cells #[.int .i64 k7, S n7, .int .i64 p7, .slice A7 us7.length c7, .int .i64 k5, S n5, .int .i64 p5, .slice A5 us5.length c5] 39 (0, 0))) := Lib.hid (heap_alloc_new w9 _)
                      clear hq ho bwW bcW bz b9 hfc htt hnd
                      go_wp2_with fail
                      go_region_held3 (fun W => W.cell? ⟨b0, o0 + x * 5 + 2, none⟩ = some (.int .i64 p) ∧ (W.cell? ⟨w5.heap.size, 0, none⟩ = some (.int .i64 k5) ∧ W.cell? ⟨w5.heap.size, 1, none⟩ = some (S n5) ∧ W.cell? ⟨w5.heap.size, 2, none⟩ = some (.int .i64 p5) ∧ W.cell? ⟨w5.heap.size, 3, none⟩ = some (.slice A5 us5.length c5)) ∧ (W.cell? ⟨w7.heap.size, 0, none⟩ = some (.int .i64 k7) ∧ W.cell? ⟨w7.heap.size, 1, none⟩ = some (S n7) ∧ W.cell? ⟨w7.heap.size, 2, none⟩ = some (.int .i64 p7) ∧ W.cell? ⟨w7.heap.size, 3, none⟩ = some (.slice A7 us7.length c7)))
                        (first | exact SC.out _ oG | exact SC.out _ oA | exact SC.out _ oS)
                        (fail)
                      all_goals
                        go_wp2_with fail
                        refine bodyPost_ret (results_raw2 rfl _ _ _ _ _ _ _ rfl HQ.out) rfl ?_
                        unfold RefPost
                        rw [HRES.out]
                        obtain ⟨_, _, _, _, ea, ha⟩ := ref_fin hs0 HO.out TA.out
                        cases ea
                        obtain ⟨_, _, _, _, eb, hb⟩ := ref_fin hs0 HO.out TB.out
                        cases eb
                        exact ⟨⟨_, rfl, TreeVP.mk (ts := [t7, t5]) (by simp) (by simp) (treesAtP_two' hb ha (.inr (by omega)) (HO.out.heap QB.out (by omega)))⟩, HB.out⟩
                    · have hr2 : (n == [45, 62]) = false := by simpa using hr
                      have hr3 : ¬ n.toArray = #[45, 62] := fun e => hr (by simpa using congrArg Array.toList e)
                      have HRES : Hid (Lfc.refBody l (Lfc.refP l m) s = .ok (Lfc.appT (Lfc.appT s[x].tree t5) t7)) := Lib.hid (by rw [HSP.out, hnd]; exact congrArg Except.ok (ref_joinT_N 1 p n us t5 t7 hr hl2))
                      have hrr : s[x].rarrow = false := by unfold Lfc.Opd.rarrow; rw [hnd, hcl]; simp [Lfc.Raw.kind, Lfc.Raw.name, Lfc.arrR, Lfc.arrL, hr, hl2]
                      rw [hrr] at CA
                      clear hrr hr hl2
                      go_wp2_with fail
                      refine CA.out.mono ?_
                      rintro ee w9 ⟨rfl, b9⟩
                      have B09 := Lib.hid (B08.out.trans (b9.mono B08.out.size))
                      have BC9 := Lib.hid (BCX7.out.trans (b9.mono BCX7.out.size))
                      have SC : Hid (∀ W, Oth w.heap.size w9 W → (W.cell? ⟨b0, o0 + x * 5, none⟩ = some (.int .i64 1) ∧ W.cell? ⟨b0, o0 + x * 5 + 1, none⟩ = some (S n) ∧ W.cell? ⟨b0, o0 + x * 5 + 2, none⟩ = some (.int .i64 p) ∧ W.cell? ⟨b0, o0 + x * 5 + 3, none⟩ = some (.slice Bo us.length co)) ∧ (W.cell? ⟨w5.heap.size, 0, none⟩ = some (.int .i64 k5) ∧ W.cell? ⟨w5.heap.size, 1, none⟩ = some (S n5) ∧ W.cell? ⟨w5.heap.size, 2, none⟩ = some (.int .i64 p5) ∧ W.cell? ⟨w5.heap.size, 3, none⟩ = some (.slice A5 us5.length c5)) ∧ (W.cell? ⟨w7.heap.size, 0, none⟩ = some (.int .i64 k7) ∧ W.cell? ⟨w7.heap.size, 1, none⟩ = some (S n7) ∧ W.cell? ⟨w7.heap.size, 2, none⟩ = some (.int .i64 p7) ∧ W.cell? ⟨w7.heap.size, 3, none⟩ = some (.slice A7 us7.length c7))) := Lib.hid (fun W ho => by
                        obtain ⟨e0, e1, e2, e3, _⟩ := hfc W (Oth.below B09.out ho hs0 B09.out.size)
                        exact ⟨⟨e0, e1, e2, e3⟩, cells4 (ho.heap ((b9.block _ (lt_of_block Q58.out)).trans Q58.out) (by omega)), cells4 (ho.heap ((b9.block _ (lt_of_block Q7.out)).trans Q7.out) (by omega))⟩)
                      have T1 : Hid (TreeVP (Q0 w0 w) w9.drew s[x].tree (.agg #[.int .i64 1, S n, .int .i64 p, .slice Bo us.length co])) := Lib.hid (by rw [hnd]; exact (htt w9.drew B09.out.drew).1)
                      have TA := Lib.hid (ref_keep ((Below.refl w9.heap.size w9).drew) (ref_keep b9 TV58.out))
                      have TB := Lib.hid (ref_keep ((Below.refl w9.heap.size w9).drew) (ref_keep b9 TV7.out))
                      have hs9 : w.heap.size < w9.drew.heap.size := by have := BC9.out.size; simp; omega
                      have G0 : Oth w.heap.size w9 w9.drew := (Oth.refl _ _).drew
                      have GB : Below wc.heap.size wc w9.drew := BC9.out.drew
                      clear hfc htt hnd b9
                      clear d0 d1 d2 d3 d4
                      go_wp2_with fail
                      go_region_held3 (fun W => (W.cell? ⟨b0, o0 + x * 5, none⟩ = some (.int .i64 1) ∧ W.cell? ⟨b0, o0 + x * 5 + 1, none⟩ = some (S n) ∧ W.cell? ⟨b0, o0 + x * 5 + 2, none⟩ = some (.int .i64 p) ∧ W.cell? ⟨b0, o0 + x * 5 + 3, none⟩ = some (.slice Bo us.length co)) ∧ (W.cell? ⟨w5.heap.size, 0, none⟩ = some (.int .i64 k5) ∧ W.cell? ⟨w5.heap.size, 1, none⟩ = some (S n5) ∧ W.cell? ⟨w5.heap.size, 2, none⟩ = some (.int .i64 p5) ∧ W.cell? ⟨w5.heap.size, 3, none⟩ = some (.slice A5 us5.length c5)) ∧ (W.cell? ⟨w7.heap.size, 0, none⟩ = some (.int .i64 k7) ∧ W.cell? ⟨w7.heap.size, 1, none⟩ = some (S n7) ∧ W.cell? ⟨w7.heap.size, 2, none⟩ = some (.int .i64 p7) ∧ W.cell? ⟨w7.heap.size, 3, none⟩ = some (.slice A7 us7.length c7)))
                        (first | exact SC.out _ G0 | exact SC.out _ ooa | exact SC.out _ oob | exact SC.out _ ooc)
                        (first
                          | (go_at_call 57; refine (rApp_ref (w0 := w0) (w := w) (Lfc.appT s[x].tree t5) t7 _ _ wx hsx VX.out (ref_keep hbx TB.out)).mono ?_; rintro e wy ⟨⟨v8, rfl, hv8⟩, hb8⟩; obtain ⟨k8, n8, p8, us8, A8, c8, ht8, rfl, hp8⟩ := hv8.parts4; have VF : Hid (TreeVP (Q0 w0 w) wy _ (.agg #[.int .i64 k8, S n8, .int .i64 p8, .slice A8 us8.length c8])) := Lib.hid ⟨_, _, _, _, rfl, hp8⟩; have oob := ooa.trans (Oth.of_below hb8); have bcW : Below wc.heap.size wc wy := (GX.trans (hb8.mono GX.size)); have bwW := BC.out.trans (bcW.mono BC.out.size); obtain ⟨s1, s2, s3, s4, g1, g2, g3, g4, ⟨y0, y1, y2, y3⟩, ⟨f0, f1, f2, f3⟩, hq, ho⟩ := put4 ((bcW.block _ hws).trans ((HI.out.bel.block _ (lt_of_block QR.out)).trans QR.out)) (.int .i64 k8) (S n8) (.int .i64 p8) (.slice A8 us8.length c8); have HQ := Lib.hid hq; have HO := Lib.hid ho; have HB := Lib.hid (Oth.below bwW ho (Nat.le_refl _) bwW.size); have ooc := oob.trans ho; clear hv8 hp8 ht8 hq)
                          | (go_at_call 57; refine (rApp_ref (w0 := w0) (w := w) s[x].tree t5 _ _ _ hs9 T1.out TA.out).mono ?_; rintro e wx ⟨⟨vx, rfl, hvx⟩, hbx⟩; obtain ⟨k6, n6, p6, us6, A6, c6, ht6, rfl, hp6⟩ := hvx.parts4; have VX : Hid (TreeVP (Q0 w0 w) wx _ (.agg #[.int .i64 k6, S n6, .int .i64 p6, .slice A6 us6.length c6])) := Lib.hid ⟨_, _, _, _, rfl, hp6⟩; have ooa := G0.trans (Oth.of_below hbx); have hsx : w.heap.size < wx.heap.size := Nat.lt_of_lt_of_le hs9 hbx.size; have GX := GB.trans (hbx.mono GB.size); clear hvx hp6 ht6))
                      all_goals
                        go_wp2_with fail
                        refine bodyPost_ret (results_raw2 rfl _ _ _ _ _ _ _ rfl HQ.out) rfl ?_
                        unfold RefPost
                        rw [HRES.out]
                        exact ⟨⟨_, rfl, ref_fin hs0 HO.out VF.out⟩, HB.out⟩
end Go.Proofs.YtkhfnkokdmoipaaDoor
