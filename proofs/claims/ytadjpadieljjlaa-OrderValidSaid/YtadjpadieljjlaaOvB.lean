/- Parts of the proof: OrAwkP, OrAwake. -/
import Derived.Test.YtadjpadieljjlaaOvA
import Derived.Test.YtadjpadieljjlaaOrExp
/- The plain facts of awake. -/
set_option linter.unusedVariables false
set_option linter.unusedSimpArgs false
namespace Lfc
def awX : Raw := .node 5 [] 0 []
def awS : Raw := .node 4 [115] 0 [awX]
theorem aw_path : Raw.path [1] awX awS = some [0] := by decide
theorem aw_up : Raw.up [1] awX awS = (2, [⟨1, awS, [0], 0⟩]) := by rw [Raw.up, aw_path]; rfl
theorem aw_no : Raw.path [1] awS awX = none := by decide
theorem aw_up2 : Raw.up [1] awS awX = (0, []) := by rw [Raw.up, aw_no]; rfl
theorem aw_chk : chkE ([awX] ++ [awS]) = 0 := by decide
theorem aw_chk2 : chkE ([awS] ++ [awX]) = 0 := by decide
theorem aw_fits : Raw.fits [1] awX awS [0] = true := by decide
theorem aw_fits2 : Raw.fits [1] awX awS [] = false := by decide
theorem aw_same : Raw.tsm awS awS = true := by decide
end Lfc

/- awake: the package's one small thing. -/
set_option linter.unusedVariables false
set_option linter.unusedSimpArgs false
namespace Go.Proofs.Ytadjpadieljjlaa
open Go.RowKit Go.Maps
theorem treesAt_new {w : World} {g : Nat} {k p : Int} {n : List UInt8} {ts : List Lfc.Raw} {A : Option Addr} {c : Nat} (h : w.heap[g]? = some (.cells #[.int .i64 k, S n, .int .i64 p, .slice A ts.length c] 34 (0, 0))) (ht : TreeV w (.node k n p ts) (.agg #[.int .i64 k, S n, .int .i64 p, .slice A ts.length c])) : TreesAt w (some ⟨g, 0, none⟩) [.node k n p ts] := fun _ => by
  obtain ⟨v0, v1, v2, v3, e, htc⟩ := ht
  cases e
  refine ⟨g, 0, rfl, lt_of_block h, ?_⟩
  rw [TreesO, TreesO]
  exact ⟨⟨_, _, _, _, Lib.cell_of_heap h 0, Lib.cell_of_heap h 1, Lib.cell_of_heap h 2, Lib.cell_of_heap h 3, htc⟩, trivial⟩
theorem awx_v (w : World) : TreeV w Lfc.awX (.agg #[.int .i64 5, S [], .int .i64 0, .slice none 0 0]) := TreeV.mk (ts := []) (by simp) (Nat.le_refl _) (fun h => absurd rfl h)
theorem aws_v {w : World} {g : Nat} (h : w.heap[g]? = some (.cells #[.int .i64 5, S [], .int .i64 0, .slice none 0 0] 34 (0, 0))) : TreeV w Lfc.awS (.agg #[.int .i64 4, S [115], .int .i64 0, .slice (some ⟨g, 0, none⟩) 1 1]) :=
  TreeV.mk (ts := [Lfc.awX]) (by simp) (Nat.le_refl _) (treesAt_new (ts := []) h (awx_v w))
theorem ints_one {w : World} {g : Nat} {x : Int} (h : w.heap[g]? = some (.cells #[.int .i64 x] 3 (0, 0))) : IntsO w (some ⟨g, 0, none⟩) [x] := fun _ => by
  refine ⟨g, 0, rfl, lt_of_block h, fun k hk => ?_⟩
  have hk1 : k < 1 := hk
  obtain rfl : k = 0 := by omega
  exact Lib.cell_of_heap h 0
/-- Holds at two terms. -/
theorem holds_two (t u : Lfc.Raw) (g h : Nat) (vt vu : Value) (A0 : Option Addr) (w : World) (hA0 : IntsO w A0 [1]) (ht : t.size ≤ 1000) (hu : u.size ≤ 1000) (hg : TreesAt w (some ⟨g, 0, none⟩) [t]) (hh : TreesAt w (some ⟨h, 0, none⟩) [u]) :
    Calls Try.prog 25 #[.slice none 0 0, .int .i64 1, .agg #[.int .i64 1, .int .i64 0, .slice none 0 0], .slice (some ⟨g, 0, none⟩) 1 1, .agg #[.int .i64 1, .int .i64 0, .slice none 0 0], .slice (some ⟨h, 0, none⟩) 1 1, .slice A0 1 1] w fun e w' => e = .returned (.tuple #[.bool (Lfc.prv0 [1] ([t] ++ [u]) t u).isSome, .int .i64 (Lfc.chkE ([t] ++ [u]))]) ∧ Below w.heap.size w w' :=
  oHolds1_any 0 0 [t] [u] (some ⟨g, 0, none⟩) (some ⟨h, 0, none⟩) A0 1 1 1 [1] w (by simp) hA0 (by simp) (by simp) (by simp) (by simp) (by intro x hx; simp at hx; rcases hx with rfl | rfl <;> omega) (fun h => by cases h) (fun h => by cases h) hg hh
theorem aw_prv : Lfc.prv0 [1] ([Lfc.awX] ++ [Lfc.awS]) Lfc.awX Lfc.awS = some [⟨1, Lfc.awS, [0], 0⟩] := by
  rw [Lfc.prv0, if_pos Lfc.aw_chk, Lfc.chain0, Lfc.aw_up]; rfl
theorem aw_prv2 : Lfc.prv0 [1] ([Lfc.awS] ++ [Lfc.awX]) Lfc.awS Lfc.awX = none := by
  rw [Lfc.prv0, if_pos Lfc.aw_chk2, Lfc.chain0, Lfc.aw_up2]; rfl
theorem aw_h1 (g h : Nat) (A0 : Option Addr) (w : World) (hA0 : IntsO w A0 [1]) (hg : TreesAt w (some ⟨g, 0, none⟩) [Lfc.awX]) (hh : TreesAt w (some ⟨h, 0, none⟩) [Lfc.awS]) :
    Calls Try.prog 25 #[.slice none 0 0, .int .i64 1, .agg #[.int .i64 1, .int .i64 0, .slice none 0 0], .slice (some ⟨g, 0, none⟩) 1 1, .agg #[.int .i64 1, .int .i64 0, .slice none 0 0], .slice (some ⟨h, 0, none⟩) 1 1, .slice A0 1 1] w fun e w' => e = .returned (.tuple #[.bool true, .int .i64 0]) ∧ Below w.heap.size w w' := by
  have := holds_two Lfc.awX Lfc.awS g h (.bool true) (.bool true) A0 w hA0 (by decide) (by decide) hg hh
  rwa [aw_prv, Lfc.aw_chk] at this
theorem aw_h2 (g h : Nat) (A0 : Option Addr) (w : World) (hA0 : IntsO w A0 [1]) (hg : TreesAt w (some ⟨g, 0, none⟩) [Lfc.awS]) (hh : TreesAt w (some ⟨h, 0, none⟩) [Lfc.awX]) :
    Calls Try.prog 25 #[.slice none 0 0, .int .i64 1, .agg #[.int .i64 1, .int .i64 0, .slice none 0 0], .slice (some ⟨g, 0, none⟩) 1 1, .agg #[.int .i64 1, .int .i64 0, .slice none 0 0], .slice (some ⟨h, 0, none⟩) 1 1, .slice A0 1 1] w fun e w' => e = .returned (.tuple #[.bool false, .int .i64 0]) ∧ Below w.heap.size w w' := by
  have := holds_two Lfc.awS Lfc.awX g h (.bool true) (.bool true) A0 w hA0 (by decide) (by decide) hg hh
  rwa [aw_prv2, Lfc.aw_chk2] at this
theorem aw_p (g h : Nat) (A0 : Option Addr) (w : World) (hA0 : IntsO w A0 [1]) (hg : TreesAt w (some ⟨g, 0, none⟩) [Lfc.awX]) (hh : TreesAt w (some ⟨h, 0, none⟩) [Lfc.awS]) :
    Calls Try.prog 27 #[.slice none 0 0, .int .i64 1, .agg #[.int .i64 1, .int .i64 0, .slice none 0 0], .slice (some ⟨g, 0, none⟩) 1 1, .agg #[.int .i64 1, .int .i64 0, .slice none 0 0], .slice (some ⟨h, 0, none⟩) 1 1, .slice A0 1 1] w fun e w' => (∃ A c B d, e = .returned (.tuple #[.agg #[.int .i64 0, .slice none 0 0, .slice A 1 c, .slice B 0 d], .bool true]) ∧ LinksP (fun b => w.heap.size ≤ b) w' A [⟨1, Lfc.awS, [0], 0⟩]) ∧ Below w.heap.size w w' := by
  have := oProve1_any 0 0 [Lfc.awX] [Lfc.awS] (some ⟨g, 0, none⟩) (some ⟨h, 0, none⟩) A0 1 1 1 [1] w (by simp) hA0 (by simp) (by simp) (by simp) (by simp) (by intro x hx; simp at hx; rcases hx with rfl | rfl <;> decide) (fun h => by cases h) (fun h => by cases h) hg hh
  refine this.mono ?_
  rintro e w' ⟨⟨h1, _⟩ | ⟨l, A, c, B, d, h1, he, hc, hl⟩, hb⟩
  · exact absurd (aw_prv.symm.trans h1) (by simp)
  · cases (Option.some.inj (aw_prv.symm.trans h1))
    exact ⟨⟨A, c, B, d, he, hl⟩, hb⟩
theorem aw_v (qq : Nat → Prop) (C Bk : Option Addr) (cC dk g h : Nat) (A0 : Option Addr) (w : World) (hA0 : IntsO w A0 [1]) (hg : TreesAt w (some ⟨g, 0, none⟩) [Lfc.awX]) (hh : TreesAt w (some ⟨h, 0, none⟩) [Lfc.awS]) (hl : LinksP qq w C [⟨1, Lfc.awS, [0], 0⟩]) :
    Calls Try.prog 28 #[.slice none 0 0, .int .i64 1, .agg #[.int .i64 1, .int .i64 0, .slice none 0 0], .slice (some ⟨g, 0, none⟩) 1 1, .agg #[.int .i64 1, .int .i64 0, .slice none 0 0], .slice (some ⟨h, 0, none⟩) 1 1, .slice A0 1 1, .agg #[.int .i64 0, .slice none 0 0, .slice C 1 cC, .slice Bk 0 dk]] w fun e w' => e = .returned (.bool true) ∧ Below w.heap.size w w' :=
  oVerify1_any [0] qq C Bk cC dk 0 0 [Lfc.awX] [Lfc.awS] (some ⟨g, 0, none⟩) (some ⟨h, 0, none⟩) A0 1 1 1 [1] w (by simp) hA0 (by simp) (by simp) (by simp) (by simp) (by intro x hx; simp at hx; rcases hx with rfl | rfl <;> decide) (fun h => by cases h) (fun h => by cases h) hg hh Lfc.aw_chk (by simp) (by simp) hl Lfc.aw_fits Lfc.aw_same (fun k n p ts e => by cases e; decide)
theorem aw_path (A0 : Option Addr) (w : World) (v : Value) (hA0 : IntsO w A0 [1]) (hv : TreeV w Lfc.awS v) :
    Calls Try.prog 26 #[.agg #[.int .i64 5, S [], .int .i64 0, .slice none 0 0], v, .slice A0 1 1] w fun e w' => (∃ A c, e = .returned (.tuple #[.slice A 1 c, .bool true])) ∧ Below w.heap.size w w' := by
  refine (oPath_any Lfc.awX Lfc.awS _ v [1] A0 1 w (by simp) (by decide) (by decide) hA0 (awx_v w) hv).mono ?_
  intro e w' h
  rw [Lfc.aw_path] at h
  obtain ⟨⟨A, c, he, _⟩, hb⟩ := h.yes
  exact ⟨⟨A, c, he⟩, hb⟩
theorem aw_f (q : List Int) (r : Bool) (A0 A1 : Option Addr) (c1 : Nat) (w : World) (v : Value) (hq : q.length ≤ 10) (hr : Lfc.Raw.fits [1] Lfc.awX Lfc.awS q = r) (hA0 : IntsO w A0 [1]) (hA1 : IntsO w A1 q) (hv : TreeV w Lfc.awS v) :
    Calls Try.prog 29 #[.agg #[.int .i64 5, S [], .int .i64 0, .slice none 0 0], v, .slice A1 q.length c1, .slice A0 1 1] w fun e w' => e = .returned (.bool r) ∧ Below w.heap.size w w' := by
  have := oFits_any Lfc.awX Lfc.awS _ v q A1 c1 [1] A0 1 w (by omega) (by simp) (by decide) (by decide) hA1 hA0 (awx_v w) hv
  rwa [hr] at this
theorem aw_val (n : Int) (r : Int) (w : World) (hn : -5 ≤ n ∧ n ≤ 5) (hr : (Lfc.Ord.node 1 0 []).vld n = r) :
    Calls Try.prog 9 #[.agg #[.int .i64 1, .int .i64 0, .slice none 0 0], .int .i64 n] w fun e w' => e = .returned (.int .i64 r) ∧ Below w.heap.size w w' := by
  have := oValid_any (.node 1 0 []) _ n w (by rw [Lfc.Ord.size, Lfc.Ord.sizes]; omega) (by omega) (by omega) (ord_arg w 0)
  rwa [hr] at this
theorem aw_shp (A : Option Addr) (c : Nat) (w : World) (hv : OrdV w (.node 1 0 []) (.agg #[.int .i64 1, .int .i64 0, .slice A 0 c])) :
    Calls Try.prog 12 #[.agg #[.int .i64 1, .int .i64 0, .slice none 0 0], .agg #[.int .i64 1, .int .i64 0, .slice A 0 c]] w fun e w' => e = .returned (.bool true) ∧ Below w.heap.size w w' := by
  have := oShape_upto 10 (by omega) (.node 1 0 []) (.node 1 0 []) _ _ w (by rw [Lfc.Ord.size, Lfc.Ord.sizes]; omega) (ord_arg w 0) hv
  rwa [Lfc.shp_arg] at this
end Go.Proofs.Ytadjpadieljjlaa
