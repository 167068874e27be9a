/- The contract of the reference's SameTokens, for lists that are the same. -/
import Derived.Test.YtmdhkcefbkdkbaaDoorLex
import Derived.Deep.QuietTactic
import Derived.BigQuiet
namespace Go.Proofs.YtmdhkcefbkdkbaaDoor
open Go.RowKit

/-- A slice of tokens that is there. -/
def TokAt (w : World) (v : Value) (l : List Lfc.Tok) : Prop :=
  ∃ A c, v = .slice A l.length c ∧ l.length ≤ c ∧ (0 < l.length → ∃ b o, A = some ⟨b, o, none⟩ ∧ b < w.heap.size ∧ ∀ k t, l[k]? = some t → w.cell? ⟨b, o + k * 3, none⟩ = some (.int .i64 t.kind) ∧ w.cell? ⟨b, o + k * 3 + 1, none⟩ = some (S t.text) ∧ w.cell? ⟨b, o + k * 3 + 2, none⟩ = some (.int .i64 (t.pos : Int)))
theorem TokAt.below {w w' : World} {v : Value} {l : List Lfc.Tok} (h : TokAt w v l) (hb : Below w.heap.size w w') : TokAt w' v l := by
  obtain ⟨A, c, rfl, h1, h2⟩ := h
  refine ⟨A, c, rfl, h1, fun hp => ?_⟩
  obtain ⟨b, o, hA, hlt, hc⟩ := h2 hp
  refine ⟨b, o, hA, Nat.lt_of_lt_of_le hlt hb.size, fun k t ht => ?_⟩
  obtain ⟨c0, c1, c2⟩ := hc k t ht
  exact ⟨(hb.cell (p := ⟨b, _, none⟩) hlt).trans c0, (hb.cell (p := ⟨b, _, none⟩) hlt).trans c1, (hb.cell (p := ⟨b, _, none⟩) hlt).trans c2⟩
theorem tokCells_at (l : List Lfc.Tok) : ∀ (k : Nat) (t : Lfc.Tok), l[k]? = some t → (tokCells l)[k * 3]? = some (.int .i64 t.kind) ∧ (tokCells l)[k * 3 + 1]? = some (S t.text) ∧ (tokCells l)[k * 3 + 2]? = some (.int .i64 (t.pos : Int)) := by
  induction l with
  | nil => intro k t h; simp at h
  | cons a r ih =>
    intro k t h
    cases k with
    | zero => simp at h; subst h; simp [tokCells]
    | succ k =>
      have := ih k t (by simpa using h)
      have e : ∀ j, (tokCells (a :: r))[(k + 1) * 3 + j]? = (tokCells r)[k * 3 + j]? := by
        intro j
        rw [show (k + 1) * 3 + j = (k * 3 + j) + 1 + 1 + 1 by omega]
        simp [tokCells]
      exact ⟨(e 0).trans this.1, (e 1).trans this.2.1, (e 2).trans this.2.2⟩
theorem TokAt.of_own {w : World} {base : Nat} {v : Value} {l : List Lfc.Tok} (h : w.ownsRow base 35 3 v l.length (tokCells l)) : TokAt w v l := by
  rcases h.2 with ⟨rfl, hn⟩ | ⟨g, cap, cur, rfl, hg, hh, hnc, _⟩
  · exact ⟨none, 0, by rw [hn], by omega, fun hp => by omega⟩
  · refine ⟨_, _, rfl, hnc, fun hp => ⟨g, 0, rfl, ?_, fun k t ht => ?_⟩⟩
    · rcases Nat.lt_or_ge g w.heap.size with h1 | h1
      · exact h1
      · rw [Array.getElem?_eq_none h1] at hh; cases hh
    · obtain ⟨c0, c1, c2⟩ := tokCells_at l k t ht
      have hc := h.cells (g := g) rfl
      refine ⟨?_, ?_, ?_⟩
      · have := hc _ _ c0; rw [addr_add] at this; simpa using this
      · have := hc _ _ c1; rw [addr_add] at this; simpa [Nat.add_assoc] using this
      · have := hc _ _ c2; rw [addr_add] at this; simpa [Nat.add_assoc] using this

theorem below_drewN {B : Nat} {a w : World} (h : Below B a w) (n : Nat) : Below B a (w.drewN n) := ⟨h.os, h.tape, h.output, h.size, h.block⟩

/-- Two tokens are the same, offsets aside or not. -/
def SameT (at_ : Bool) (a b : List Lfc.Tok) : Prop := a.length = b.length ∧ ∀ (k : Nat) (s t : Lfc.Tok), a[k]? = some s → b[k]? = some t → s.kind = t.kind ∧ s.text = t.text ∧ (at_ = true → s.pos = t.pos)

set_option maxRecDepth 100000 in
set_option maxHeartbeats 2000000 in
theorem same_any (va vb : Value) (la lb : List Lfc.Tok) (at_ : Bool) (w : World) (ha : TokAt w va la) (hb : TokAt w vb lb) (hs : SameT at_ la lb) (hmax : la.length ≤ 100000) :
    Calls Tryd.prog 23 #[va, vb, .bool at_] w fun e w' => e = .returned (.bool true) ∧ Below w.heap.size w w' := by
  obtain ⟨A, ca, rfl, hca, hA⟩ := ha
  obtain ⟨B', cb, rfl, hcb, hB⟩ := hb
  obtain ⟨hl, hk⟩ := hs
  have HA := Lib.hid hA
  have HB := Lib.hid hB
  have HK := Lib.hid hk
  have HL := Lib.hid hl
  clear hA hB hk
  rw [← hl]
  rw [← hl] at hcb
  clear hl
  go_enter Tryd.func23, Tryd.ntmps23
  go_wp2_with fail
  go_loopw [7] (fun i wr => ∃ k : Nat, k ≤ la.length ∧ i = .int .i64 k ∧ Below w.heap.size w wr) (fun i _ => la.length - (intOf i).toNat)
  case atStart => exact ⟨0, by omega, rfl, Below.refl _ _⟩
  case round =>
    obtain ⟨k, hk, rfl, hbw⟩ := hrel
    by_cases hlt : k < la.length
    · have hltb : k < lb.length := by have := HL.out; omega
      obtain ⟨ab, ao, rfl, hab, hac⟩ := HA.out (by omega)
      obtain ⟨bb, bo, rfl, hbb, hbc⟩ := HB.out (by omega)
      obtain ⟨a0, a1, a2⟩ := hac k la[k] (List.getElem?_eq_getElem hlt)
      obtain ⟨b0, b1, b2⟩ := hbc k lb[k] (List.getElem?_eq_getElem hltb)
      obtain ⟨k0, k1, k2⟩ := HK.out k la[k] lb[k] (List.getElem?_eq_getElem hlt) (List.getElem?_eq_getElem hltb)
      rw [← k0] at b0
      rw [← k1] at b1
      have a0' := (hbw.cell (p := ⟨ab, _, none⟩) hab).trans a0
      have a1' := (hbw.cell (p := ⟨ab, _, none⟩) hab).trans a1
      have a2' := (hbw.cell (p := ⟨ab, _, none⟩) hab).trans a2
      have b0' := (hbw.cell (p := ⟨bb, _, none⟩) hbb).trans b0
      have b1' := (hbw.cell (p := ⟨bb, _, none⟩) hbb).trans b1
      have b2' := (hbw.cell (p := ⟨bb, _, none⟩) hbb).trans b2
      clear a0 a1 a2 b0 b1 b2 k0 k1 hac hbc
      cases at_
      · clear k2 a2' b2'
        generalize la[k].kind = kd at *
        generalize la[k].text = tx at *
        go_wp2_with fail
        go_quiet (fail)
        go_wp2_with fail
        go_roundw
        case rel => exact ⟨k + 1, by omega, by go_num, below_drewN hbw _⟩
        case measure => simp [intOf]; omega
      · rw [← k2 rfl] at b2'
        clear k2
        generalize la[k].kind = kd at *
        generalize la[k].text = tx at *
        generalize la[k].pos = ps at *
        go_wp2_with fail
        go_quiet (fail)
        go_wp2_with fail
        go_roundw
        case rel => exact ⟨k + 1, by omega, by go_num, below_drewN hbw _⟩
        case measure => simp [intOf]; omega
    · go_wp2_with fail
      go_ret
      exact ⟨rfl, hbw⟩
end Go.Proofs.YtmdhkcefbkdkbaaDoor
