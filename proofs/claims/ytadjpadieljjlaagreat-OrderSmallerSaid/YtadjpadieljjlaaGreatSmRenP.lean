/- What the walk of rename keeps. -/
import Derived.Test.YtadjpadieljjlaaGreatSmRow
import Derived.Test.YtadjpadieljjlaaGreatSmUnder
import Derived.Test.YtadjpadieljjlaaGreatOrKd
import Derived.Test.YtadjpadieljjlaaGreatOrLink
set_option linter.unusedVariables false
set_option linter.unusedSimpArgs false
namespace Go.Proofs.YtadjpadieljjlaaGreat
open Go.RowKit Go.Maps
/-- What rename answers. -/
def RenAns (w : World) (n : Nat) (e : Ending) (w' : World) : Prop :=
  (∃ k nm p ts A c b, e = .returned (.tuple #[.agg #[.int .i64 k, S nm, .int .i64 p, .slice A (List.length ts) c], .bool b]) ∧ TreeVP (fun b => w.heap.size ≤ b) w' (.node k nm p ts) (.agg #[.int .i64 k, S nm, .int .i64 p, .slice A (List.length ts) c]) ∧ (Lfc.Raw.node k nm p ts).size ≤ n ∧ ((b = true → Lfc.Raw.posB 1048576 (.node k nm p ts) = true))) ∧ Below w.heap.size w w'
/-- The state of the loop of rename: the term in block R, its arguments. -/
structure RnI (wa : World) (R base : Nat) (k : Int) (nm : List UInt8) (p : Int) (n : Nat) (ts : List Lfc.Raw) (A : Option Addr) (c : Nat) (xs : List Value) (wr : World) : Prop where
  r : wr.heap[R]? = some (.cells #[.int .i64 k, S nm, .int .i64 p, .slice A ts.length c] 51 (0, 0))
  own : wr.ownsRow base 51 4 (.slice A ts.length c) ts.length xs
  row : RowP (fun b => base ≤ b ∧ some b ≠ (Value.slice A ts.length c).ownBlock) wr ts xs
  below : Below R wa wr
  size : base ≤ wr.heap.size
  few : Lfc.Raw.sizes ts ≤ n
  pos : Lfc.Raw.posBs 1048576 ts = true
theorem RnI.step {wa wr w9 w10 : World} {R base n n' : Nat} {k p k9 p9 : Int} {nm n9 : List UInt8} {ts ts9 : List Lfc.Raw} {A A9 : Option Addr} {c c9 : Nat} {xs : List Value} {v' : Value} (h : RnI wa R base k nm p n ts A c xs wr) (hR : 0 < R) (hRb : R < base) (hwa : wa.heap.size ≤ R)
    (b9 : Below wr.heap.size wr w9) (hp9 : TreeP (fun b => wr.heap.size ≤ b) w9 (.node k9 n9 p9 ts9) (.int .i64 k9) (S n9) (.int .i64 p9) (.slice A9 ts9.length c9)) (hn : n + (Lfc.Raw.node k9 n9 p9 ts9).size ≤ n') (hpo : Lfc.Raw.posB 1048576 (.node k9 n9 p9 ts9) = true)
    (hown' : w10.ownsRow base 51 4 v' (ts.length + 1) (xs ++ [.int .i64 k9, S n9, .int .i64 p9, .slice A9 ts9.length c9]))
    (hg : (w9.alloc (.cells #[.int .i64 k9, S n9, .int .i64 p9, .slice A9 ts9.length c9] 51)).grownBy w10 (Value.slice A ts.length c).ownBlock) (hloc : v'.ownBlock = (Value.slice A ts.length c).ownBlock ∨ v'.ownBlock = some (w9.heap.size + 1)) :
    w10.heap[R]? = some (.cells #[.int .i64 k, S nm, .int .i64 p, .slice A ts.length c] 51 (0, 0)) ∧
    (∀ A10 c10, v' = .slice A10 (ts.length + 1) c10 → RnI wa R base k nm p n' (ts ++ [.node k9 n9 p9 ts9]) A10 c10 (xs ++ [.int .i64 k9, S n9, .int .i64 p9, .slice A9 ts9.length c9]) (w10.setCell ⟨R, 3, none⟩ v')) := by
  have o9 : Oth 0 wr.drew w9 := ⟨b9.os, b9.tape, b9.output, b9.size, fun j hj _ => b9.block j hj⟩
  have hsz := h.size
  obtain ⟨f0, f1, f2, f3, f4, f5, f6, f7⟩ := trm_final hRb hR h.size hwa h.r h.own h.row (Oth.of_below (h.below.mono hwa)) o9 hp9 hown' hg hloc
  refine ⟨f0, ?_⟩
  rintro A10 c10 rfl
  have el : (ts ++ [Lfc.Raw.node k9 n9 p9 ts9]).length = ts.length + 1 := by rw [List.length_append]; rfl
  refine ⟨by rw [el]; exact f1, by rw [el]; rw [el] at f2; exact f2, by rw [el]; exact f3, ⟨f4.os, f4.tape, f4.output, f4.size, fun b hb => ?_⟩, f5, ?_, ?_⟩
  · refine Eq.trans ?_ (h.below.block b hb)
    by_cases hb0 : b = 0
    · rw [hb0, f7]
      exact b9.block 0 (by omega)
    · exact f6 b (by omega) (by omega) hb0
  · rw [Lfc.Raw.sizes_app]
    have h1 := h.few
    simp only [Lfc.Raw.sizes]
    omega
  · rw [Lfc.posBs_app, h.pos]
    simp only [Lfc.Raw.posBs, hpo, Bool.and_true]
theorem RnI.start {wa wr : World} {R : Nat} {k p : Int} {nm : List UInt8} (hq : wr.heap[R]? = some (.cells #[.int .i64 k, S nm, .int .i64 p, .slice none 0 0] 51 (0, 0))) (hb : Below R wa wr) : RnI wa R (R + 1) k nm p 0 [] none 0 [] wr :=
  ⟨hq, ⟨by simp, .inl ⟨rfl, rfl⟩⟩, by rw [RowP], hb, lt_of_block hq, by simp [Lfc.Raw.sizes], rfl⟩
/-- The result's cells are written: what rename answers then. -/
theorem ren_ret {w w2 wr : World} {G n : Nat} {k p : Int} {nm : List UInt8} {ts : List Lfc.Raw} {A : Option Addr} {c : Nat} {z0 z1 z2 z3 : Value} (b : Bool) (hG : w.heap.size ≤ G) (hb : Below w.heap.size w wr) (hq : wr.heap[G]? = some (.cells #[z0, z1, z2, z3] 51 (0, 0))) (hn : nm.length ≤ 1000000) (hA : TreesAtP (fun b => G < b) wr A ts ∧ ts.length ≤ c) (hsz : Lfc.Raw.sizes ts + 1 ≤ n) (hpo : b = true → Lfc.Raw.posB 1048576 (.node k nm p ts) = true) :
    ∃ s1 s2 s3 s4, wr.setCell ⟨G, 0, none⟩ (.int .i64 k) = s1 ∧ s1.setCell ⟨G, 1, none⟩ (S nm) = s2 ∧ s2.setCell ⟨G, 2, none⟩ (.int .i64 p) = s3 ∧ s3.setCell ⟨G, 3, none⟩ (.slice A ts.length c) = s4 ∧
      (wr.cell? ⟨G, 0, none⟩ = some z0 ∧ s1.cell? ⟨G, 1, none⟩ = some z1 ∧ s2.cell? ⟨G, 2, none⟩ = some z2 ∧ s3.cell? ⟨G, 3, none⟩ = some z3) ∧
      (wr.frozen? ⟨G, 0, none⟩ = false ∧ s1.frozen? ⟨G, 1, none⟩ = false ∧ s2.frozen? ⟨G, 2, none⟩ = false ∧ s3.frozen? ⟨G, 3, none⟩ = false) ∧
      s4.heap[G]? = some (.cells #[.int .i64 k, S nm, .int .i64 p, .slice A ts.length c] 51 (0, 0)) ∧ Hid (RenAns w n (.returned (.tuple #[.agg #[.int .i64 k, S nm, .int .i64 p, .slice A ts.length c], .bool b])) s4) := by
  obtain ⟨s1, s2, s3, s4, g1, g2, g3, g4, hy, hf, hq4, hot⟩ := tput4 hq (.int .i64 k) (S nm) (.int .i64 p) (.slice A ts.length c)
  refine ⟨s1, s2, s3, s4, g1, g2, g3, g4, hy, hf, hq4, Lib.hid ⟨⟨k, nm, p, ts, A, c, b, rfl, TreeVP.mk hn hA.2 ?_, by rw [Lfc.Raw.size]; exact hsz, hpo⟩, Oth.below hb hot hG hb.size⟩⟩
  refine hA.1.keep (fun j hj hlt => hot.block j hlt (fun e => by have e := Option.some.inj e; have hj : G < j := hj; omega)) hot.size (fun j _ hj => by have hj : G < j := hj; show w.heap.size ≤ j; omega)
theorem ren_zero {w w2 wr : World} {G n : Nat} (hG : w.heap.size ≤ G) (hb : Below w.heap.size w wr) (hq : wr.heap[G]? = some (.cells #[.int .i64 0, S [], .int .i64 0, .slice none 0 0] 51 (0, 0))) (hn : 1 ≤ n) :
    ∃ s1 s2 s3 s4, wr.setCell ⟨G, 0, none⟩ (.int .i64 0) = s1 ∧ s1.setCell ⟨G, 1, none⟩ (S []) = s2 ∧ s2.setCell ⟨G, 2, none⟩ (.int .i64 0) = s3 ∧ s3.setCell ⟨G, 3, none⟩ (.slice none 0 0) = s4 ∧
      (wr.cell? ⟨G, 0, none⟩ = some (.int .i64 0) ∧ s1.cell? ⟨G, 1, none⟩ = some (S []) ∧ s2.cell? ⟨G, 2, none⟩ = some (.int .i64 0) ∧ s3.cell? ⟨G, 3, none⟩ = some (.slice none 0 0)) ∧
      (wr.frozen? ⟨G, 0, none⟩ = false ∧ s1.frozen? ⟨G, 1, none⟩ = false ∧ s2.frozen? ⟨G, 2, none⟩ = false ∧ s3.frozen? ⟨G, 3, none⟩ = false) ∧
      s4.heap[G]? = some (.cells #[.int .i64 0, S [], .int .i64 0, .slice none 0 0] 51 (0, 0)) ∧ Hid (RenAns w n (.returned (.tuple #[.agg #[.int .i64 0, S [], .int .i64 0, .slice none 0 0], .bool false])) s4) :=
  ren_ret (w2 := w2) (ts := []) false hG hb hq (by simp) ⟨fun h => absurd rfl h, Nat.le_refl _⟩ (by simp [Lfc.Raw.sizes]; exact hn) (fun h => by cases h)
/-- The variable of the round: the renamed part, in a new block. -/
def RnX (wr : World) (n : Nat) (s11 s12 : Value) (wx : World) : Prop := ∃ g k nm p ts A c b, s11 = .pointer (some ⟨g, 0, none⟩) ∧ s12 = .bool b ∧ wr.heap.size ≤ g ∧ wx.heap[g]? = some (.cells #[.int .i64 k, S nm, .int .i64 p, .slice A (List.length ts) c] 51 (0, 0)) ∧
  TreeVP (fun b => wr.heap.size ≤ b) wx (.node k nm p ts) (.agg #[.int .i64 k, S nm, .int .i64 p, .slice A (List.length ts) c]) ∧ (Lfc.Raw.node k nm p ts).size ≤ n ∧ (b = true → Lfc.Raw.posB 1048576 (.node k nm p ts) = true) ∧ Below wr.heap.size wr wx
end Go.Proofs.YtadjpadieljjlaaGreat
