/- The contract of lfcheckmade.Raw: some tree of the right form, of bounded size. -/
import Derived.Test.YtkhfnkokdmoipaaRawP
import Derived.Deep.RegionHeld3
import Derived.Deep.RegionLaw
import Derived.Deep.DeepCutAuto
import Derived.Deep.CutBlock
import Derived.RegionTactic
import Derived.Maps.AppendAt
set_option linter.unusedVariables false
set_option linter.unusedSimpArgs false
namespace Go.Proofs.Ytkhfnkokdmoipaa
open Go.RowKit Go.Maps Go.WideMaps

section
variable {P : Program} (w : World)
theorem step_append_own_at {ops : Array Oper} {o : Oper} {a : Act} {K : Act → World → Prop} {Q : Exit → Act → World → Prop} {E : Prop} (hgd : o.guard = none) (s x : Operand) (t : TypeId)
    (ho : o.op = .call { callee := .builtin .append, args := #[s, x], argTypes := #[t, t] })
    (base : Nat) (e : TypeId) (i : TypeInfo) (z : Value) (size bytes : Nat) (ht : P.underlying t = some (.slice e)) (hi : P.info? e = some i) (hz : i.zero = some z)
    (hsize : i.size = size) (hby : i.bytes = bytes) (hzs : z.cells.size = size) (hsz : 0 < size)
    (v : Value) (n : Nat) (xs : List Value) (hs : a.eval s = v) (hown : w.ownsRow base e size v n xs)
    (ad : Addr) (m c : Nat) (news : List Value) (hx : a.eval x = .slice (some ad) m c) (hl : news.length = m * size) (hnews : ∀ j u, news[j]? = some u → w.cell? (ad.add j) = some u) (h1 : ∀ u ∈ news, u.oneCell' = true)
    (h63 : n + m ≤ maxLen) (hbytes : (n + m) * bytes ≤ 140737488355328) (hbase : base ≤ w.heap.size)
    (h : ∀ v' w', w'.ownsRow base e size v' (n + m) (xs ++ news) → w.grownBy w' v.ownBlock → (v'.ownBlock = v.ownBlock ∨ v'.ownBlock = some w.heap.size) → K (a.put o.dst v') w') :
    if Region.wanted o (yielded ops a.tmps) = true then Oper.wp P o a w K Q else E := by
  have hw : Region.wanted o (yielded ops a.tmps) = true := by simp [Region.wanted, hgd]
  rw [if_pos hw]
  obtain ⟨v', w', hr, h2, h3, h4, h5⟩ := run_append_own_at (P := P) w base t o.type e i z size bytes ht hi hz hsize hby hzs hsz v n xs hown ad m c news hl hnews h1 h63 hbytes hbase
  unfold Oper.wp execOp
  simp only [ho, resolve, invoke, builtin, Sem.run_bind, Sem.run_pure, Result.andThen_ok, List.map_toArray, List.map_cons, List.map_nil, hs, hx, hr]
  exact h v' w' h2 h3 h5
end

theorem TreeVP.open_ {q : Nat → Prop} {w : World} {k p : Int} {n : List UInt8} {ts : List Lfc.Raw} {v : Value} (h : TreeVP q w (.node k n p ts) v) : ∃ A c, v = .agg #[.int .i64 k, S n, .int .i64 p, .slice A ts.length c] ∧ TreeP q w (.node k n p ts) (.int .i64 k) (S n) (.int .i64 p) (.slice A ts.length c) := by
  obtain ⟨v0, v1, v2, v3, rfl, h⟩ := h
  have h' := h
  rw [TreeP] at h
  obtain ⟨rfl, rfl, _, rfl, A, c, rfl, _⟩ := h
  exact ⟨A, c, rfl, h'⟩
theorem cells4 {W : World} {g : Nat} {v0 v1 v2 v3 : Value} {t : TypeId} (h : W.heap[g]? = some (.cells #[v0, v1, v2, v3] t (0, 0))) : W.cell? ⟨g, 0, none⟩ = some v0 ∧ W.cell? ⟨g, 1, none⟩ = some v1 ∧ W.cell? ⟨g, 2, none⟩ = some v2 ∧ W.cell? ⟨g, 3, none⟩ = some v3 :=
  ⟨Lib.cell_of_heap h 0, Lib.cell_of_heap h 1, Lib.cell_of_heap h 2, Lib.cell_of_heap h 3⟩
theorem raw_size : (Try.prog.info? 32).map (·.size) = some 4 := by kernel_rfl
theorem results_raw {fn : Func} {p : Tmp} (h : fn.results = #[.cell p 32]) (tmps : Array Value) (w : World) (g : Nat) (v0 v1 v2 v3 : Value) (hp : tmps.getD p undef = .pointer (some ⟨g, 0, none⟩)) (hg : w.heap[g]? = some (.cells #[v0, v1, v2, v3] 32 (0, 0))) :
    (results fn tmps).run Try.prog w = .ok (.agg #[v0, v1, v2, v3]) w :=
  results_cell_row h tmps w g _ _ _ _ hp hg Try.underlying32 rfl raw_size
/-- A row of trees is stored as a node's arguments. -/
theorem row_final {q : Nat → Prop} {W : World} {r g j : Nat} {ts : List Lfc.Raw} {xs : List Value} {v : Value} (hrow : RowP q W ts xs) (hc : CellsAt W g 0 xs) (hg : g < W.heap.size) (hqg : q g) (hqr : ∀ b, q b → b ≠ r) : TreesAtP q (W.setCell ⟨r, j, none⟩ v) (some ⟨g, 0, none⟩) ts := by
  have h : TreesAtP q W (some ⟨g, 0, none⟩) ts := fun _ => ⟨g, 0, rfl, hg, hqg, hrow.lie hc⟩
  refine h.keep (fun b hb _ => Below.heap_setCell _ _ _ _ (hqr b hb)) (by simp [World.setCell]) (fun b _ hb => hb)
theorem set3 {W : World} {r : Nat} {v0 v1 v2 v3 v : Value} {t : TypeId} (h : W.heap[r]? = some (.cells #[v0, v1, v2, v3] t (0, 0))) : (W.setCell ⟨r, 3, none⟩ v).heap[r]? = some (.cells #[v0, v1, v2, v] t (0, 0)) := by
  simp [World.setCell, Array.getElem?_modify, h]
theorem set1 {W : World} {r : Nat} {v0 v1 v2 v3 v : Value} {t : TypeId} (h : W.heap[r]? = some (.cells #[v0, v1, v2, v3] t (0, 0))) : (W.setCell ⟨r, 1, none⟩ v).heap[r]? = some (.cells #[v0, v, v2, v3] t (0, 0)) := by
  simp [World.setCell, Array.getElem?_modify, h]
theorem cellsAt_new (W : World) (xs : List Value) (t : TypeId) : CellsAt (W.alloc (.cells xs.toArray t)) W.heap.size 0 xs := by
  intro j u hj
  rw [Lib.cell_of_heap (heap_alloc_new W _)]
  simpa using hj
theorem pair_final {w4 w5 w6 w7 : World} {T r lo : Nat} {t5 t7 : Lfc.Raw} {a0 a1 a2 a3 b0 b1 b2 b3 v : Value} (h4 : r < w4.heap.size) (hlo : lo < r) (hT : T < w4.heap.size) (o5 : w4.heap.size ≤ w5.heap.size) (b6 : Below w5.heap.size w5 w6) (o7 : Oth T w6.drew w7)
    (h5 : TreeP (fun b => w4.heap.size ≤ b) w5 t5 a0 a1 a2 a3) (h7 : TreeP (fun b => w6.drew.heap.size ≤ b) w7 t7 b0 b1 b2 b3) :
    TreesAtP (fun b => lo < b) ((w7.alloc (.cells #[a0, a1, a2, a3, b0, b1, b2, b3] 32)).setCell ⟨r, 3, none⟩ v) (some ⟨w7.heap.size, 0, none⟩) [t5, t7] := by
  have s6 := b6.size
  have s7 : w6.heap.size ≤ w7.heap.size := o7.size
  have k5 : TreeP (fun b => w4.heap.size ≤ b) (w7.alloc (.cells #[a0, a1, a2, a3, b0, b1, b2, b3] 32)) t5 a0 a1 a2 a3 := by
    refine TreeP.keep (fun b hb hlt => ?_) (by simp; omega) (fun b _ hb => hb) _ _ _ _ _ h5
    have hb : w4.heap.size ≤ b := hb
    rw [Lib.alloc_old _ _ _ (by omega)]
    exact (o7.block b (by show b < w6.heap.size; omega) (fun e => by have := Option.some.inj e; omega)).trans (b6.block b hlt)
  have k7 : TreeP (fun b => w4.heap.size ≤ b) (w7.alloc (.cells #[a0, a1, a2, a3, b0, b1, b2, b3] 32)) t7 b0 b1 b2 b3 := by
    refine TreeP.keep (fun b hb hlt => Lib.alloc_old _ _ _ hlt) (by simp) (fun b _ hb => ?_) _ _ _ _ _ h7
    have hb : w6.heap.size ≤ b := hb
    show w4.heap.size ≤ b
    omega
  have h := row_final (j := 3) (v := v) ((RowP.one k7).append (RowP.one k5)) (cellsAt_new w7 [a0, a1, a2, a3, b0, b1, b2, b3] 32) (by simp) (show w4.heap.size ≤ w7.heap.size by omega) (r := r) (fun b hb => by have hb : w4.heap.size ≤ b := hb; omega)
  exact h.keep (fun _ _ _ => rfl) (Nat.le_refl _) (fun b _ hb => by have hb : w4.heap.size ≤ b := hb; show lo < b; omega)

theorem binder_trees {base lo : Nat} {W : World} {A : Option Addr} {c : Nat} {ts : List Lfc.Raw} {xs : List Value} (hlo : lo < base) (hown : W.ownsRow base 32 4 (.slice A ts.length c) ts.length xs) (hrow : RowP (fun b => base ≤ b ∧ some b ≠ (Value.slice A ts.length c).ownBlock) W ts xs) :
    TreesAtP (fun b => lo < b) W A ts ∧ ts.length ≤ c := by
  rcases hown.2 with ⟨h1, h2⟩ | ⟨g, cap, cur, hv, hbg, hg, hnc, _, _, _⟩
  · exact ⟨fun hne => absurd (List.length_eq_zero_iff.1 h2) hne, by rw [h2]; exact Nat.zero_le _⟩
  · injection hv with e1 _ e3
    subst e1 e3
    refine ⟨fun _ => ⟨g, 0, rfl, lt_of_block hg, by show lo < g; omega, ?_⟩, hnc⟩
    exact (RowP.keep (fun _ _ _ => rfl) (Nat.le_refl _) (fun b _ hb => by have := hb.1; show lo < b; omega) hrow).lie (own_cells hown)
theorem raw_info : ∃ i, Try.prog.info? 32 = some i ∧ i.zero = some (.agg #[.int .i64 0, S [], .int .i64 0, .slice none 0 0]) ∧ i.size = 4 ∧ i.bytes = 56 := by
  obtain ⟨i0, hi, hz0, hz1, hz2⟩ := info_parts (show (Try.prog.info? 32).map (fun i => (i.zero, i.size, i.bytes)) = some (some (.agg #[.int .i64 0, S [], .int .i64 0, .slice none 0 0]), 4, 56) by kernel_rfl)
  exact ⟨i0, hi, hz0, hz1, hz2⟩

theorem forms_app (a b : List Lfc.Raw) : Lfc.Raw.forms (a ++ b) = (Lfc.Raw.forms a && Lfc.Raw.forms b) := by
  induction a with
  | nil => simp [Lfc.Raw.forms]
  | cons x r ih => simp only [List.cons_append, Lfc.Raw.forms, ih, Bool.and_assoc]
theorem binder_formed {k : Int} {n : List UInt8} {l : Nat} (hk : k = 7 ∨ k = 8) (hn : (Lfc.isName n || decide (n = [95])) = true) (hl : l = 1 ∨ l = 2) : Lfc.formed k n l = true := by
  unfold Lfc.formed
  rw [if_neg (by omega), if_neg (by omega), if_neg (by omega), if_pos hk, hn]
  rcases hl with rfl | rfl <;> rfl
theorem alloc_le {w : World} {o : Obj} {b : Nat} (h : b ≤ w.heap.size) : b ≤ (w.alloc o).heap.size := by simp; omega
theorem alloc_loc {w : World} {o : Obj} {v v' : Value} (h : v'.ownBlock = v.ownBlock ∨ v'.ownBlock = some (w.alloc o).heap.size) : v'.ownBlock = v.ownBlock ∨ v'.ownBlock = some (w.heap.size + 1) := by simpa using h
theorem eq2 {a b : Nat} (h : a = b) : a ≤ b ∧ b ≤ a := ⟨Nat.le_of_eq h, Nat.le_of_eq h.symm⟩
theorem names4 {w : World} {g : Nat} (r : Nat) (hr : r < 4) (h : w.heap[g]? = some (.cells #[S [97], S [78], S [120], S [95]] 9 (0, 0))) : ∃ nm : List UInt8, (Lfc.isName nm || decide (nm = [95])) = true ∧ nm.length ≤ 10 ∧ w.cell? ⟨g, r, none⟩ = some (S nm) := by
  match r, hr with
  | 0, _ => exact ⟨[97], by decide, by decide, Lib.cell_of_heap h 0⟩
  | 1, _ => exact ⟨[78], by decide, by decide, Lib.cell_of_heap h 1⟩
  | 2, _ => exact ⟨[120], by decide, by decide, Lib.cell_of_heap h 2⟩
  | 3, _ => exact ⟨[95], by decide, by decide, Lib.cell_of_heap h 3⟩
theorem oneCell4 {k p : Int} {n : List UInt8} {A : Option Addr} {l c : Nat} : ∀ u ∈ [Value.int .i64 k, S n, .int .i64 p, .slice A l c], u.oneCell' = true := by
  intro u hu
  simp at hu
  rcases hu with rfl | rfl | rfl | rfl <;> rfl

end Go.Proofs.Ytkhfnkokdmoipaa
