/- Parts of the proof that no input makes the law false: OcMem, OcMap, OcOds, OcSr, OcCcat. -/
import Derived.Maps.OwnSet
import Derived.Maps.Views
import Derived.DeepKeys4
import Derived.WideKeyPair
import Derived.Test.YtadjpadieljjlaaGreatTvAA
import Derived.Test.YtadjpadieljjlaaGreatTvAC
import Derived.Test.YtadjpadieljjlaaGreatTvAD
import Derived.Test.YtadjpadieljjlaaGreatTvAG
import Derived.Test.YtadjpadieljjlaaGreatTvAH
import Derived.Test.YtadjpadieljjlaaGreatTvAI
import Derived.Test.YtadjpadieljjlaaGreatTvAJ
set_option linter.unusedVariables false
set_option linter.unusedSimpArgs false
namespace Go.Proofs.YtadjpadieljjlaaGreat
open Go.RowKit Go.Maps
attribute [local go_sem ↓] Go.wp_at_zero Go.wp_at_succ
def FactO (q : Nat → Prop) (w : World) (b o : Nat) (f : Lfc.Fact) : Prop := ∃ k n p ts A c k' n' p' ts' A' c', f.l = .node k n p ts ∧ f.r = .node k' n' p' ts' ∧
 (w.cell? ⟨b, o, none⟩ = some (.int .i64 k) ∧ w.cell? ⟨b, o + 1, none⟩ = some (S n) ∧ w.cell? ⟨b, o + 2, none⟩ = some (.int .i64 p) ∧ w.cell? ⟨b, o + 3, none⟩ = some (.slice A (List.length ts) c)) ∧
 w.cell? ⟨b, o + 4, none⟩ = some (.int .i64 f.rel) ∧
 (w.cell? ⟨b, o + 5, none⟩ = some (.int .i64 k') ∧ w.cell? ⟨b, o + 6, none⟩ = some (S n') ∧ w.cell? ⟨b, o + 7, none⟩ = some (.int .i64 p') ∧ w.cell? ⟨b, o + 8, none⟩ = some (.slice A' (List.length ts') c')) ∧
 TreeVP q w f.l (.agg #[.int .i64 k, S n, .int .i64 p, .slice A (List.length ts) c]) ∧ TreeVP q w f.r (.agg #[.int .i64 k', S n', .int .i64 p', .slice A' (List.length ts') c'])
theorem FactO.keep {q q' : Nat → Prop} {w w' : World} {b o : Nat} {f : Lfc.Fact} (hk : ∀ b, q b → b < w.heap.size → w'.heap[b]? = w.heap[b]?) (hs : w.heap.size ≤ w'.heap.size) (hq : ∀ b, b < w.heap.size → q b → q' b) (hb : q b) (hlt : b < w.heap.size) (h : FactO q w b o f) : FactO q' w' b o f := by
 obtain ⟨k, n, p, ts, A, c, k', n', p', ts', A', c', e1, e2, ⟨c0, c1, c2, c3⟩, c4, ⟨c5, c6, c7, c8⟩, v1, v2⟩ := h
 have cc : ∀ j v, w.cell? ⟨b, j, none⟩ = some v → w'.cell? ⟨b, j, none⟩ = some v := fun j v hv => (cell_kept (o := j) (hk b hb hlt)).trans hv
 exact ⟨k, n, p, ts, A, c, k', n', p', ts', A', c', e1, e2, ⟨cc _ _ c0, cc _ _ c1, cc _ _ c2, cc _ _ c3⟩, cc _ _ c4, ⟨cc _ _ c5, cc _ _ c6, cc _ _ c7, cc _ _ c8⟩, v1.keep hk hs hq, v2.keep hk hs hq⟩
def FactsP (q : Nat → Prop) (w : World) (F : Option Addr) (fs : List Lfc.Fact) : Prop := fs ≠ [] → ∃ b o, F = some ⟨b, o, none⟩ ∧ b < w.heap.size ∧ q b ∧ ∀ i (h : i < fs.length), FactO q w b (o + i * 9) fs[i]
theorem FactsP.keep {q q' : Nat → Prop} {w w' : World} {F : Option Addr} {fs : List Lfc.Fact} (hk : ∀ b, q b → b < w.heap.size → w'.heap[b]? = w.heap[b]?) (hs : w.heap.size ≤ w'.heap.size) (hq : ∀ b, b < w.heap.size → q b → q' b) (h : FactsP q w F fs) : FactsP q' w' F fs := fun hne => by
 obtain ⟨b, o, hF, hlt, hb, hf⟩ := h hne
 exact ⟨b, o, hF, Nat.lt_of_lt_of_le hlt hs, hq b hlt hb, fun i hi => (hf i hi).keep hk hs hq hb hlt⟩
theorem FactsP.below {q : Nat → Prop} {w w' : World} {F : Option Addr} {fs : List Lfc.Fact} (h : FactsP q w F fs) (hb : Below w.heap.size w w') : FactsP q w' F fs := h.keep (fun b _ hlt => hb.block b hlt) hb.size (fun _ _ h => h)
def SideAns (q : Nat → Prop) (w : World) (t : Lfc.Raw) (e : Ending) (w' : World) : Prop := (∃ v, e = .returned v ∧ TreeVP q w' t v) ∧ Below w.heap.size w w'
theorem side_fin {q : Nat → Prop} {w w1 : World} {k p : Int} {n : List UInt8} {ts : List Lfc.Raw} {A : Option Addr} {c : Nat} {t : Lfc.Raw} (b1 : Below w.heap.size w w1) (q1 : w1.heap[w.heap.size]? = some (.cells #[.int .i64 0, S [], .int .i64 0, .slice none 0 0] 51 (0, 0))) (ht : t = .node k n p ts) (hv : TreeVP q w t (.agg #[.int .i64 k, S n, .int .i64 p, .slice A ts.length c])) :
  ∃ s1 s2 s3 s4, w1.setCell ⟨w.heap.size, 0, none⟩ (.int .i64 k) = s1 ∧ s1.setCell ⟨w.heap.size, 1, none⟩ (S n) = s2 ∧ s2.setCell ⟨w.heap.size, 2, none⟩ (.int .i64 p) = s3 ∧ s3.setCell ⟨w.heap.size, 3, none⟩ (.slice A ts.length c) = s4 ∧
   (w1.cell? ⟨w.heap.size, 0, none⟩ = some (.int .i64 0) ∧ s1.cell? ⟨w.heap.size, 1, none⟩ = some (S []) ∧ s2.cell? ⟨w.heap.size, 2, none⟩ = some (.int .i64 0) ∧ s3.cell? ⟨w.heap.size, 3, none⟩ = some (.slice none 0 0)) ∧
   (w1.frozen? ⟨w.heap.size, 0, none⟩ = false ∧ s1.frozen? ⟨w.heap.size, 1, none⟩ = false ∧ s2.frozen? ⟨w.heap.size, 2, none⟩ = false ∧ s3.frozen? ⟨w.heap.size, 3, none⟩ = false) ∧
   Hid (s4.heap[w.heap.size]? = some (.cells #[.int .i64 k, S n, .int .i64 p, .slice A ts.length c] 51 (0, 0))) ∧ Hid (SideAns q w t (.returned (.agg #[.int .i64 k, S n, .int .i64 p, .slice A ts.length c])) s4) := by
 obtain ⟨s1, s2, s3, s4, g1, g2, g3, g4, hy, hf, hq4, hot⟩ := tput4 q1 (.int .i64 k) (S n) (.int .i64 p) (.slice A ts.length c)
 have hb : Below w.heap.size w s4 := Oth.below b1 hot (Nat.le_refl _) b1.size
 exact ⟨s1, s2, s3, s4, g1, g2, g3, g4, hy, hf, Lib.hid hq4, Lib.hid ⟨⟨_, rfl, hv.keep (fun b _ hlt => hb.block b hlt) hb.size (fun _ _ h => h)⟩, hb⟩⟩
set_option maxRecDepth 100000 in
set_option maxHeartbeats 4000000 in
theorem oSide_any (q : Nat → Prop) (Bx i : Nat) (fs : List Lfc.Fact) (F : Option Addr) (f0 : Nat) (w : World) (hn : fs.length ≤ 1000000) (hi : i < 2 * fs.length) (hF : FactsP q w F fs) (hx : w.cell? ⟨Bx, 0, none⟩ = some (.slice F fs.length f0)) (hB : Bx < w.heap.size) :
  Calls Tryz.prog 150 #[.pointer (some ⟨Bx, 0, none⟩), .int .i64 (i : Int)] w (SideAns q w (Lfc.sd fs i)) := by
 obtain ⟨a, ha⟩ : ∃ a, i / 2 = a := ⟨_, rfl⟩
 have hal : a < fs.length := by omega
 obtain ⟨b, o, rfl, hlt, hqb, hf⟩ := hF (by intro h; rw [h] at hal; simp at hal)
 obtain ⟨k, n, p, ts, A, c, k', n', p', ts', A', c', e1, e2, ⟨c0, c1, c2, c3⟩, c4, ⟨c5, c6, c7, c8⟩, v1, v2⟩ := hf a hal
 have hg : fs.getD a Lfc.noFact = fs[a] := by simp [List.getD, hal]
 have hdiv : (i : Int).tdiv 2 = (a : Int) := by rw [Int.tdiv_eq_ediv_of_nonneg (by omega)]; omega
 have hwr : IntKind.i64.wrap (a : Int) = (a : Int) := IntWalk.i64_in _ (by omega)
 have ha0 : (0 : Int) ≤ (a : Int) := by omega
 have ha1 : (a : Int) < (fs.length : Int) := by omega
 obtain ⟨w1, hw1⟩ : ∃ w1, w.alloc (.cells #[.int .i64 0, S [], .int .i64 0, .slice none 0 0] 51) = w1 := ⟨_, rfl⟩
 have b1 : Below w.heap.size w w1 := by rw [← hw1]; exact (Below.refl _ _).alloc (Nat.le_refl _) _
 have q1 : w1.heap[w.heap.size]? = some (.cells #[.int .i64 0, S [], .int .i64 0, .slice none 0 0] 51 (0, 0)) := by rw [← hw1]; exact heap_alloc_new _ _
 have hx1 := (b1.cell (p := ⟨Bx, 0, none⟩) hB).trans hx
 have cc : ∀ j v, w.cell? ⟨b, j, none⟩ = some v → w1.cell? ⟨b, j, none⟩ = some v := fun j v hv => (b1.cell (p := ⟨b, j, none⟩) hlt).trans hv
 by_cases hr : i % 2 = 0
 ·have hmod : (i : Int).tmod 2 = 0 := by rw [Int.tmod_eq_emod_of_nonneg (by omega)]; omega
  have hsd : Lfc.sd fs i = fs[a].l := by rw [Lfc.sd, if_pos hr, ha, hg]
  rw [hsd]
  obtain ⟨s1, s2, s3, s4, g1, g2, g3, g4, ⟨y0, y1, y2, y3⟩, ⟨f0', f1, f2, f3⟩, HQ, HZ⟩ := side_fin b1 q1 e1 v1
  have d0 := cc _ _ c0
  have d1 := cc _ _ c1
  have d2 := cc _ _ c2
  have d3 := cc _ _ c3
  clear cc c0 c1 c2 c3 c4 c5 c6 c7 c8 v1 v2 hf hF hx b1 q1 hsd hg ha hr
  go_enter Tryz.func150, Tryz.ntmps150
  go_wp2_with fail
  refine bodyPost_ret (results_term rfl _ _ _ _ _ _ _ rfl HQ.out) rfl ?_
  exact HZ.out
 ·have hmod : (i : Int).tmod 2 = 1 := by rw [Int.tmod_eq_emod_of_nonneg (by omega)]; omega
  have hsd : Lfc.sd fs i = fs[a].r := by rw [Lfc.sd, if_neg hr, ha, hg]
  rw [hsd]
  obtain ⟨s1, s2, s3, s4, g1, g2, g3, g4, ⟨y0, y1, y2, y3⟩, ⟨f0', f1, f2, f3⟩, HQ, HZ⟩ := side_fin b1 q1 e2 v2
  have d5 := cc _ _ c5
  have d6 := cc _ _ c6
  have d7 := cc _ _ c7
  have d8 := cc _ _ c8
  clear cc c0 c1 c2 c3 c4 c5 c6 c7 c8 v1 v2 hf hF hx b1 q1 hsd hg ha hr
  go_enter Tryz.func150, Tryz.ntmps150
  go_wp2_with fail
  refine bodyPost_ret (results_term rfl _ _ _ _ _ _ _ rfl HQ.out) rfl ?_
  exact HZ.out
end Go.Proofs.YtadjpadieljjlaaGreat
namespace Go.Proofs.YtadjpadieljjlaaGreat
open Go.RowKit Go.Maps Go.WideMaps
def heldE (v : Value) : Option (DataW Value × List MemPlace) := some (.held v, [])
def eZero : Value := .agg #[.int .i64 0, .slice none 0 0]
def ekl (i j : Nat) : Lit := .string (keyBytes [.int .i64 (i : Int), .int .i64 (j : Int)])
theorem eArr : ArrKey Tryz.prog 180 3 2 := ⟨Tryz.underlying180, by kernel_rfl, by kernel_rfl, by kernel_rfl⟩
theorem eKeyed : Keyed Tryz.prog 180 := Keyed.of_law (deep_law_laid (by kernel_rfl) (m := 2) (by omega) (of_decide_eq_true (by kernel_rfl)) (by kernel_rfl) (by rw [Tryz.underlying180]))
theorem int_wf (i : Nat) (h : i ≤ 1000000) : (Lit.int .i64 (i : Int)).wf = true := by
 have h1 : IntKind.i64.min = -9223372036854775808 := by decide
 have h2 : IntKind.i64.max = 9223372036854775807 := by decide
 simp [Lit.wf, h1, h2]; omega
theorem ekey (i j : Nat) (hi : i ≤ 1000000) (hj : j ≤ 1000000) : keyOf Tryz.prog 180 (.agg #[.int .i64 (i : Int), .int .i64 (j : Int)]) = some (ekl i j) :=
 keyOf_pair eArr Tryz.underlying3 ⟨Tryz.prog.types.size - 1, by kernel_rfl⟩ (int_wf i hi) (int_wf j hj)
theorem ekl_inj {i j i' j' : Nat} (hi : i ≤ 1000000) (hj : j ≤ 1000000) (hi' : i' ≤ 1000000) (hj' : j' ≤ 1000000) (h : ekl i j = ekl i' j') : i = i' ∧ j = j' := by
 have h1 := ekey i j hi hj
 have h2 := ekey i' j' hi' hj'
 rw [← h] at h2
 have := eKeyed.inj h1 h2
 simp at this
 omega
theorem countP_drop {α : Type} {p p' : α → Bool} {x : α} (hx : p x = true) (hx' : p' x = false) (h : ∀ y, p' y = true → p y = true) : ∀ l : List α, x ∈ l → l.countP p' + 1 ≤ l.countP p
 | [], hm => by simp at hm
 | y :: l, hm => by
  have hle : l.countP p' ≤ l.countP p := List.countP_mono_left (fun z _ hz => h z hz)
  rw [List.countP_cons, List.countP_cons]
  rcases List.mem_cons.1 hm with rfl | hm
  ·rw [if_pos hx, if_neg (by simp [hx'])]
   omega
  ·have := countP_drop hx hx' h l hm
   by_cases hy : p' y = true
   ·rw [if_pos hy, if_pos (h y hy)]; omega
   ·rw [if_neg hy]; split <;> omega
def grid (n : Nat) : List (Nat × Nat) := (List.range n).flatMap fun i => (List.range n).map fun j => (i, j)
theorem grid_mem {n i j : Nat} (hi : i < n) (hj : j < n) : (i, j) ∈ grid n := by simp [grid, hi, hj]
def EMap (w : World) (Mb n : Nat) (G : Nat → Nat → Value → Prop) : Prop := ∃ (D : DataW Value) (N0 : Nat), w.ownsMap Tryz.prog 180 heldE Mb N0 D ∧ N0 + (grid n).countP (fun k => !Maps.has D (ekl k.1 k.2)) ≤ (grid n).length ∧
 ∀ i j, i < n → j < n → (Maps.has D (ekl i j) = false ∧ ∀ z, D.atKey (ekl i j) z = z) ∨ (Maps.has D (ekl i j) = true ∧ ∃ v, G i j v ∧ ∀ z, D.atKey (ekl i j) z = .held v)
theorem EMap.mono {w : World} {Mb n : Nat} {G G' : Nat → Nat → Value → Prop} (h : EMap w Mb n G) (hg : ∀ i j v, G i j v → G' i j v) : EMap w Mb n G' := by
 obtain ⟨D, N0, hown, hN, hD⟩ := h
 refine ⟨D, N0, hown, hN, fun i j hi hj => (hD i j hi hj).imp id ?_⟩
 rintro ⟨h1, v, h2, h3⟩
 exact ⟨h1, v, hg _ _ _ h2, h3⟩
theorem EMap.lt {w : World} {Mb n : Nat} {G : Nat → Nat → Value → Prop} (h : EMap w Mb n G) : Mb < w.heap.size := by
 obtain ⟨D, N0, hown, _⟩ := h
 exact hown.lt
theorem EMap.kept {w w' : World} {Mb n : Nat} {G : Nat → Nat → Value → Prop} {row : Option Nat} (h : EMap w Mb n G) (hg : w.grownBy w' row) (hne : some Mb ≠ row) : EMap w' Mb n G := by
 obtain ⟨D, N0, hown, hN, hD⟩ := h
 exact ⟨D, N0, hown.kept hg hne, hN, hD⟩
theorem EMap.made (w : World) (n : Nat) (G : Nat → Nat → Value → Prop) : EMap (w.alloc (.map #[] 0)) w.heap.size n G :=
 ⟨.map [], 0, World.ownsMap_made _ _ _ _, by rw [Nat.zero_add]; exact List.countP_le_length, fun i j _ _ => .inl ⟨rfl, fun _ => rfl⟩⟩
theorem eZeroV (w : World) : (zeroValue 183).run Tryz.prog w = .ok eZero w := by kernel_rfl
theorem EMap.looks {w : World} {Mb n : Nat} {G : Nat → Nat → Value → Prop} (h : EMap w Mb n G) {i j : Nat} (hi : i < n) (hj : j < n) (hn : n ≤ 1000000) :
  ∃ v b, (∀ W, Below w.heap.size w W → (Instr.lookup 83 (.map (some Mb)) (.agg #[.int .i64 (i : Int), .int .i64 (j : Int)]) true).run Tryz.prog W = .ok (.tuple #[v, .bool b]) W) ∧ ((b = false ∧ v = eZero) ∨ (b = true ∧ G i j v)) := by
 obtain ⟨D, N0, hown, hN, hD⟩ := h
 have hrun : ∀ W, Below w.heap.size w W → ∃ v ps, (Instr.lookup 83 (.map (some Mb)) (.agg #[.int .i64 (i : Int), .int .i64 (j : Int)]) true).run Tryz.prog W = .ok (.tuple #[v, .bool (Maps.has D (ekl i j))]) W ∧ heldE v = some (D.atKey (ekl i j) (.held eZero), ps) := fun W hb =>
  (hown.kept (row := none) ⟨hb.os, hb.tape, hb.output, hb.size, fun k hk _ => hb.block k hk⟩ (by intro e; cases e)).look_ok eKeyed Tryz.underlying83 (eZeroV W) (show heldE eZero = some (.held eZero, []) from rfl) (ekey i j (by omega) (by omega))
 rcases hD i j hi hj with ⟨h1, h2⟩ | ⟨h1, u, h2, h3⟩
 ·refine ⟨eZero, false, fun W hb => ?_, .inl ⟨rfl, rfl⟩⟩
  obtain ⟨v, ps, hr, hv⟩ := hrun W hb
  rw [h2, heldE] at hv
  simp only [Option.some.injEq, Prod.mk.injEq, DataW.held.injEq] at hv
  rw [h1, hv.1] at hr
  exact hr
 ·refine ⟨u, true, fun W hb => ?_, .inr ⟨rfl, h2⟩⟩
  obtain ⟨v, ps, hr, hv⟩ := hrun W hb
  rw [h3, heldE] at hv
  simp only [Option.some.injEq, Prod.mk.injEq, DataW.held.injEq] at hv
  rw [h1, hv.1] at hr
  exact hr
theorem grid_len (n : Nat) (hn : n ≤ 1000) : (grid n).length ≤ 1000000 := by
 have h : (grid n).length = n * n := by simp [grid, List.length_flatMap, List.map_const', List.sum_replicate_nat]
 rw [h]
 exact Nat.mul_le_mul hn hn
theorem EMap.put {w : World} {Mb n : Nat} {G : World → Nat → Nat → Value → Prop} (h : EMap w Mb n (G w)) {i j : Nat} (hi : i < n) (hj : j < n) (hn : n ≤ 1000) (v : Value) (hlook : ∃ z, (Instr.lookup 83 (.map (some Mb)) (.agg #[.int .i64 (i : Int), .int .i64 (j : Int)]) true).run Tryz.prog w = .ok (.tuple #[z, .bool false]) w)
  (hG : ∀ w', Oth Mb w w' → ∀ x y u, G w x y u → G w' x y u) (hv : ∀ w', Oth Mb w w' → G w' i j v) :
  ∃ w', (Instr.mapUpdate 83 (.map (some Mb)) (.agg #[.int .i64 (i : Int), .int .i64 (j : Int)]) v).run Tryz.prog w = .ok () w' ∧ EMap w' Mb n (G w') ∧ Oth Mb w w' := by
 obtain ⟨D, N0, hown, hN, hD⟩ := h
 have hgl := grid_len n hn
 obtain ⟨w', hrun, hown', hturn⟩ := hown.store eKeyed Tryz.underlying83 (by unfold maxLen; omega) (ekey i j (by omega) (by omega)) (show heldE v = some (.held v, []) from rfl)
 have ho : Oth Mb w w' := hturn.grown
 have habs : Maps.has D (ekl i j) = false := by
  obtain ⟨z, hz⟩ := hlook
  obtain ⟨v2, ps, hrun2, _⟩ := hown.look_ok eKeyed Tryz.underlying83 (eZeroV w) (show heldE eZero = some (.held eZero, []) from rfl) (ekey i j (by omega) (by omega))
  rw [hrun2] at hz
  simp at hz
  exact hz.2
 refine ⟨w', hrun, ⟨_, _, hown', ?_, fun x y hx hy => ?_⟩, ho⟩
 ·have hc := countP_drop (p := fun k : Nat × Nat => !Maps.has D (ekl k.1 k.2)) (p' := fun k : Nat × Nat => !Maps.has (D.put (ekl i j) (.held v)) (ekl k.1 k.2)) (x := (i, j)) (by simp [habs]) (by
   rw [has_put_same hown.isMap (by simp [ekl, WideAt.IsKeyLit])]; rfl) (fun y hy => by
   cases hh : Maps.has D (ekl y.1 y.2) with
   | false => rfl
   | true =>
    exfalso
    by_cases e : ekl y.1 y.2 = ekl i j
    ·rw [e, has_put_same hown.isMap (by simp [ekl, WideAt.IsKeyLit])] at hy; cases hy
    ·rw [has_put_other e, hh] at hy; cases hy) (grid n) (grid_mem hi hj)
  omega
 ·by_cases e : x = i ∧ y = j
  ·obtain ⟨rfl, rfl⟩ := e
   refine .inr ⟨has_put_same hown.isMap (by simp [ekl, WideAt.IsKeyLit]) _, v, hv w' ho, fun z => atKey_put_same hown.isMap (by simp [ekl, WideAt.IsKeyLit]) _ _⟩
  ·have e' : ekl x y ≠ ekl i j := fun h => e (ekl_inj (by omega) (by omega) (by omega) (by omega) h)
   rw [has_put_other e']
   rcases hD x y hx hy with ⟨h1, h2⟩ | ⟨h1, u, h2, h3⟩
   ·exact .inl ⟨h1, fun z => by rw [atKey_put_other e']; exact h2 z⟩
   ·exact .inr ⟨h1, u, hG w' ho _ _ _ h2, fun z => by rw [atKey_put_other e']; exact h3 z⟩
def LkO (q : Nat → Prop) (w : World) (A : Option Addr) (n c : Nat) : Prop := n ≤ c ∧ ∃ l : List Lfc.Link, l.length = n ∧ LinksP q w A l ∧ ∀ x ∈ l, x.term.size ≤ 1000000 ∧ x.path.length ≤ 10000000
theorem LkO.keep {q q' : Nat → Prop} {w w' : World} {A : Option Addr} {n c : Nat} (hk : ∀ b, q b → b < w.heap.size → w'.heap[b]? = w.heap[b]?) (hs : w.heap.size ≤ w'.heap.size) (hq : ∀ b, b < w.heap.size → q b → q' b) (h : LkO q w A n c) : LkO q' w' A n c := by
 obtain ⟨hc, l, hl, h1, h2⟩ := h
 exact ⟨hc, l, hl, h1.keep hk hs hq, h2⟩
theorem LkO.nil {q : Nat → Prop} {w : World} {A : Option Addr} {c : Nat} : LkO q w A 0 c := ⟨Nat.zero_le _, [], rfl, LinksP.nil, fun x h => by cases h⟩
def EdV (q : Nat → Prop) (w : World) (s : Int) (v : Value) : Prop := ∃ A n c, v = .agg #[.int .i64 s, .slice A n c] ∧ n ≤ 1 ∧ LkO q w A n c
theorem EdV.keep {q q' : Nat → Prop} {w w' : World} {s : Int} {v : Value} (hk : ∀ b, q b → b < w.heap.size → w'.heap[b]? = w.heap[b]?) (hs : w.heap.size ≤ w'.heap.size) (hq : ∀ b, b < w.heap.size → q b → q' b) (h : EdV q w s v) : EdV q' w' s v := by
 obtain ⟨A, n, c, e, h1, h2⟩ := h
 exact ⟨A, n, c, e, h1, h2.keep hk hs hq⟩
theorem edV_of_up {q : Nat → Prop} {ks : List Int} {t u : Lfc.Raw} {w : World} {e : Ending} {w' : World} (hu : u.size ≤ 1000000) (h : EdgeAns w (Lfc.Raw.up ks t u) e w') (hq : ∀ b, w.heap.size ≤ b → q b) : ∃ v, e = .returned v ∧ EdV q w' (Lfc.upS ks t u) v ∧ Below w.heap.size w w' := by
 obtain ⟨⟨A, c, rfl, hc, hl⟩, hb⟩ := h
 obtain ⟨h1, h2⟩ := up_links ks t u hu (fun q h => Nat.le_trans (Lfc.path_len h) (by omega))
 exact ⟨_, rfl, ⟨A, _, c, rfl, h1, hc, _, rfl, hl.keep (fun _ _ _ => rfl) (Nat.le_refl _) (fun b _ hb => hq b hb), h2⟩, hb⟩
def Cache (ks : List Int) (fs : List Lfc.Fact) (Mb : Nat) (q : Nat → Prop) (w : World) : Prop := EMap w Mb (2 * fs.length) (fun i j v => EdV q w (Lfc.upS ks (Lfc.sd fs i) (Lfc.sd fs j)) v)
theorem Cache.keep {ks : List Int} {fs : List Lfc.Fact} {Mb : Nat} {q q' : Nat → Prop} {w w' : World} {row : Option Nat} (hg : w.grownBy w' row) (hne : some Mb ≠ row) (hk : ∀ b, q b → b < w.heap.size → some b ≠ row) (hq : ∀ b, b < w.heap.size → q b → q' b) (h : Cache ks fs Mb q w) : Cache ks fs Mb q' w' :=
 (h.kept hg hne).mono (fun i j v he => he.keep (fun b hb hlt => hg.block b hlt (hk b hb hlt)) hg.size hq)
theorem Cache.put {ks : List Int} {fs : List Lfc.Fact} {Mb : Nat} {q : Nat → Prop} {w : World} (h : Cache ks fs Mb q w) (hqM : ∀ b, q b → b ≠ Mb) {i j : Nat} (hi : i < 2 * fs.length) (hj : j < 2 * fs.length) (hn : 2 * fs.length ≤ 1000) {v : Value} (hv : EdV q w (Lfc.upS ks (Lfc.sd fs i) (Lfc.sd fs j)) v)
  (hlook : ∃ z, (Instr.lookup 83 (.map (some Mb)) (.agg #[.int .i64 (i : Int), .int .i64 (j : Int)]) true).run Tryz.prog w = .ok (.tuple #[z, .bool false]) w) :
  ∃ w', (Instr.mapUpdate 83 (.map (some Mb)) (.agg #[.int .i64 (i : Int), .int .i64 (j : Int)]) v).run Tryz.prog w = .ok () w' ∧ Cache ks fs Mb q w' ∧ Oth Mb w w' :=
 EMap.put (G := fun W i j v => EdV q W (Lfc.upS ks (Lfc.sd fs i) (Lfc.sd fs j)) v) h hi hj hn v hlook (fun w' ho x y u hu => hu.keep (fun b hb hlt => ho.block b hlt (fun e => hqM b hb (Option.some.inj e))) ho.size (fun _ _ h => h)) (fun w' ho => hv.keep (fun b hb hlt => ho.block b hlt (fun e => hqM b hb (Option.some.inj e))) ho.size (fun _ _ h => h))
theorem Cache.below {ks : List Int} {fs : List Lfc.Fact} {Mb : Nat} {q : Nat → Prop} {w w' : World} (h : Cache ks fs Mb q w) (hb : Below w.heap.size w w') : Cache ks fs Mb q w' :=
 h.keep (row := none) ⟨hb.os, hb.tape, hb.output, hb.size, fun k hk _ => hb.block k hk⟩ (fun e => by cases e) (fun _ _ _ e => by cases e) (fun _ _ h => h)
structure PvO (w : World) (Bx Mb : Nat) (F A0 L R : Option Addr) (f0 c0 cl cr : Nat) (fs : List Lfc.Fact) (ks : List Int) (ts us : List Lfc.Raw) : Prop where
 lt : Bx < w.heap.size
 ne : Bx ≠ Mb
 facts : w.cell? ⟨Bx, 0, none⟩ = some (.slice F fs.length f0)
 kinds : w.cell? ⟨Bx, 1, none⟩ = some (.slice A0 ks.length c0)
 left : w.cell? ⟨Bx, 2, none⟩ = some (.slice L ts.length cl)
 right : w.cell? ⟨Bx, 3, none⟩ = some (.slice R us.length cr)
 cache : w.cell? ⟨Bx, 4, none⟩ = some (.map (some Mb))
 fs : FactsP (fun b => b ≠ Mb) w F fs
 ks : IntsP (fun b => b ≠ Mb) w A0 ks
 ts : TreesAtP (fun b => b ≠ Mb) w L ts
 us : TreesAtP (fun b => b ≠ Mb) w R us
theorem Oth.keepne {Mb : Nat} {w w' : World} (h : Oth Mb w w') : ∀ b, b ≠ Mb → b < w.heap.size → w'.heap[b]? = w.heap[b]? := fun b hb hlt => h.block b hlt (fun e => hb (Option.some.inj e))
theorem PvO.oth {w w' : World} {Bx Mb : Nat} {F A0 L R : Option Addr} {f0 c0 cl cr : Nat} {fs : List Lfc.Fact} {ks : List Int} {ts us : List Lfc.Raw} (h : PvO w Bx Mb F A0 L R f0 c0 cl cr fs ks ts us) (ho : Oth Mb w w') : PvO w' Bx Mb F A0 L R f0 c0 cl cr fs ks ts us :=
 ⟨Nat.lt_of_lt_of_le h.lt ho.size, h.ne, (ho.cell h.lt h.ne).trans h.facts, (ho.cell h.lt h.ne).trans h.kinds, (ho.cell h.lt h.ne).trans h.left, (ho.cell h.lt h.ne).trans h.right, (ho.cell h.lt h.ne).trans h.cache,
  h.fs.keep ho.keepne ho.size (fun _ _ h => h), h.ks.keep ho.keepne ho.size (fun _ _ h => h), h.ts.keep ho.keepne ho.size (fun _ _ h => h), h.us.keep ho.keepne ho.size (fun _ _ h => h)⟩
theorem TreeVP.oth {Mb : Nat} {w w' : World} {t : Lfc.Raw} {v : Value} (h : TreeVP (fun b => b ≠ Mb) w t v) (ho : Oth Mb w w') : TreeVP (fun b => b ≠ Mb) w' t v := h.keep ho.keepne ho.size (fun _ _ h => h)
end Go.Proofs.YtadjpadieljjlaaGreat
namespace Lfc
mutual
def Ods.size : Ods → Nat
 | .arg _ _ => 1
 | .lex ps => Ods.sizes ps + 1
 | .sim ps => Ods.sizes ps + 1
def Ods.sizes : List Ods → Nat
 | [] => 0
 | p :: r => Ods.size p + Ods.sizes r
end
mutual
def Ods.rng (n m : Nat) : Ods → Prop
 | .arg i j => i < n ∧ j < m
 | .lex ps => Ods.rngs n m ps
 | .sim ps => Ods.rngs n m ps
def Ods.rngs (n m : Nat) : List Ods → Prop
 | [] => True
 | p :: r => Ods.rng n m p ∧ Ods.rngs n m r
end
theorem Ods.size_pos (p : Ods) : 0 < p.size := by cases p <;> simp [Ods.size]
theorem Ods.sizes_mem : ∀ (ps : List Ods) (p : Ods), p ∈ ps → p.size ≤ Ods.sizes ps
 | [], p, h => by cases h
 | a :: r, p, h => by
  rw [Ods.sizes]
  rcases List.mem_cons.1 h with rfl | h
  ·omega
  ·have := Ods.sizes_mem r p h; omega
theorem Ods.sizes_len : ∀ (ps : List Ods), ps.length ≤ Ods.sizes ps
 | [] => by simp
 | a :: r => by
  have := Ods.sizes_len r
  have := a.size_pos
  rw [Ods.sizes, List.length_cons]
  omega
theorem Ods.rngs_mem {n m : Nat} : ∀ (ps : List Ods) (p : Ods), Ods.rngs n m ps → p ∈ ps → Ods.rng n m p
 | [], p, _, h => by cases h
 | a :: r, p, hr, h => by
  rw [Ods.rngs] at hr
  rcases List.mem_cons.1 h with rfl | h
  ·exact hr.1
  ·exact Ods.rngs_mem r p hr.2 h
inductive Pf where
 | node (ps : List Pf)
mutual
def Pf.size : Pf → Nat
 | .node ps => Pf.sizes ps + 1
def Pf.sizes : List Pf → Nat
 | [] => 0
 | p :: r => Pf.size p + Pf.sizes r
end
theorem Pf.size_pos (p : Pf) : 0 < p.size := by cases p; simp [Pf.size]
theorem Pf.sizes_mem : ∀ (ps : List Pf) (p : Pf), p ∈ ps → p.size ≤ Pf.sizes ps
 | [], p, h => by cases h
 | a :: r, p, h => by
  rw [Pf.sizes]
  rcases List.mem_cons.1 h with rfl | h
  ·omega
  ·have := Pf.sizes_mem r p h; omega
theorem Pf.sizes_len : ∀ (ps : List Pf), ps.length ≤ Pf.sizes ps
 | [] => by simp
 | a :: r => by
  have := Pf.sizes_len r
  have := a.size_pos
  rw [Pf.sizes, List.length_cons]
  omega
theorem Pf.sizes_app : ∀ (ps : List Pf) (p : Pf), Pf.sizes (ps ++ [p]) = Pf.sizes ps + p.size
 | [], p => by simp [Pf.sizes]
 | a :: r, p => by rw [List.cons_append, Pf.sizes, Pf.sizes, Pf.sizes_app r p]; omega
end Lfc
namespace Go.Proofs.YtadjpadieljjlaaGreat
open Go.RowKit Go.Maps
mutual
def OdsP (q : Nat → Prop) (w : World) : Lfc.Ods → Value → Prop
 | .arg i j, v => v = .iface 123 (.agg #[.int .i64 (i : Int), .int .i64 (j : Int)])
 | .lex ps, v => ∃ A c, v = .iface 120 (.agg #[.slice A ps.length c]) ∧ ps.length ≤ c ∧ (ps ≠ [] → ∃ b o, A = some ⟨b, o, none⟩ ∧ b < w.heap.size ∧ q b ∧ OdssP q w b ps o)
 | .sim ps, v => ∃ A c, v = .iface 121 (.agg #[.slice A ps.length c]) ∧ ps.length ≤ c ∧ (ps ≠ [] → ∃ b o, A = some ⟨b, o, none⟩ ∧ b < w.heap.size ∧ q b ∧ OdssP q w b ps o)
def OdssP (q : Nat → Prop) (w : World) (b : Nat) : List Lfc.Ods → Nat → Prop
 | [], _ => True
 | p :: r, o => (∃ v, w.cell? ⟨b, o, none⟩ = some v ∧ OdsP q w p v) ∧ OdssP q w b r (o + 1)
end
mutual
theorem OdsP.keep {q q' : Nat → Prop} {w w' : World} (hk : ∀ b, q b → b < w.heap.size → w'.heap[b]? = w.heap[b]?) (hs : w.heap.size ≤ w'.heap.size) (hq : ∀ b, b < w.heap.size → q b → q' b) : ∀ (p : Lfc.Ods) (v : Value), OdsP q w p v → OdsP q' w' p v
 | .arg i j, v, h => by rw [OdsP] at h ⊢; exact h
 | .lex ps, v, h => by
  rw [OdsP] at h ⊢
  obtain ⟨A, c, hv, hc, h5⟩ := h
  refine ⟨A, c, hv, hc, fun hne => ?_⟩
  obtain ⟨b, o, hA, hlt, hqb, hts⟩ := h5 hne
  exact ⟨b, o, hA, Nat.lt_of_lt_of_le hlt hs, hq b hlt hqb, OdssP.keep hk hs hq ps b o hlt hqb hts⟩
 | .sim ps, v, h => by
  rw [OdsP] at h ⊢
  obtain ⟨A, c, hv, hc, h5⟩ := h
  refine ⟨A, c, hv, hc, fun hne => ?_⟩
  obtain ⟨b, o, hA, hlt, hqb, hts⟩ := h5 hne
  exact ⟨b, o, hA, Nat.lt_of_lt_of_le hlt hs, hq b hlt hqb, OdssP.keep hk hs hq ps b o hlt hqb hts⟩
theorem OdssP.keep {q q' : Nat → Prop} {w w' : World} (hk : ∀ b, q b → b < w.heap.size → w'.heap[b]? = w.heap[b]?) (hs : w.heap.size ≤ w'.heap.size) (hq : ∀ b, b < w.heap.size → q b → q' b) : ∀ (ps : List Lfc.Ods) (b o : Nat), b < w.heap.size → q b → OdssP q w b ps o → OdssP q' w' b ps o
 | [], _, _, _, _, _ => by rw [OdssP]; trivial
 | p :: r, b, o, hlt, hb, h => by
  rw [OdssP] at h ⊢
  obtain ⟨⟨v, c0, ht⟩, hr⟩ := h
  exact ⟨⟨v, (World.cell?_of_block (a := ⟨b, o, none⟩) (hk b hb hlt)).trans c0, OdsP.keep hk hs hq p v ht⟩, OdssP.keep hk hs hq r b (o + 1) hlt hb hr⟩
end
def OdsSl (q : Nat → Prop) (w : World) (A : Option Addr) (ps : List Lfc.Ods) : Prop := ps ≠ [] → ∃ b o, A = some ⟨b, o, none⟩ ∧ b < w.heap.size ∧ q b ∧ OdssP q w b ps o
theorem OdsSl.keep {q q' : Nat → Prop} {w w' : World} {A : Option Addr} {ps : List Lfc.Ods} (hk : ∀ b, q b → b < w.heap.size → w'.heap[b]? = w.heap[b]?) (hs : w.heap.size ≤ w'.heap.size) (hq : ∀ b, b < w.heap.size → q b → q' b) (h : OdsSl q w A ps) : OdsSl q' w' A ps := fun hne => by
 obtain ⟨b, o, hA, hlt, hqb, h⟩ := h hne
 exact ⟨b, o, hA, Nat.lt_of_lt_of_le hlt hs, hq b hlt hqb, OdssP.keep hk hs hq ps b o hlt hqb h⟩
theorem OdsP.oth {Mb : Nat} {w w' : World} (ho : Oth Mb w w') {p : Lfc.Ods} {v : Value} (h : OdsP (fun b => b ≠ Mb) w p v) : OdsP (fun b => b ≠ Mb) w' p v :=
 OdsP.keep (fun b hb hlt => ho.block b hlt (fun e => hb (Option.some.inj e))) ho.size (fun _ _ h => h) p v h
theorem OdsSl.oth {Mb : Nat} {w w' : World} (ho : Oth Mb w w') {A : Option Addr} {ps : List Lfc.Ods} (h : OdsSl (fun b => b ≠ Mb) w A ps) : OdsSl (fun b => b ≠ Mb) w' A ps :=
 OdsSl.keep (fun b hb hlt => ho.block b hlt (fun e => hb (Option.some.inj e))) ho.size (fun _ _ h => h) h
theorem OdssP.at_ {q : Nat → Prop} {w : World} {b : Nat} : ∀ (ps : List Lfc.Ods) (o i : Nat) (h : i < ps.length), OdssP q w b ps o → ∃ v, w.cell? ⟨b, o + i, none⟩ = some v ∧ OdsP q w ps[i] v
 | [], _, _, h, _ => by cases h
 | p :: r, o, i, hi, h => by
  rw [OdssP] at h
  cases i with
  | zero => exact h.1
  | succ i =>
   have := OdssP.at_ r (o + 1) i (by simpa using hi) h.2
   rw [show o + (i + 1) = o + 1 + i by omega]
   exact this
theorem OdsSl.at_ {q : Nat → Prop} {w : World} {A : Option Addr} {ps : List Lfc.Ods} (h : OdsSl q w A ps) {i : Nat} (hi : i < ps.length) : ∃ b o v, A = some ⟨b, o, none⟩ ∧ b < w.heap.size ∧ q b ∧ w.cell? ⟨b, o + i, none⟩ = some v ∧ OdsP q w ps[i] v := by
 obtain ⟨b, o, hA, hlt, hqb, h⟩ := h (by intro h0; rw [h0] at hi; cases hi)
 obtain ⟨v, h1, h2⟩ := OdssP.at_ ps o i hi h
 exact ⟨b, o, v, hA, hlt, hqb, h1, h2⟩
def ODRow (q : Nat → Prop) (w : World) : List Lfc.Ods → List Value → Prop
 | [], xs => xs = []
 | p :: r, xs => ∃ v ys, xs = v :: ys ∧ OdsP q w p v ∧ ODRow q w r ys
theorem ODRow.keep {q q' : Nat → Prop} {w w' : World} (hk : ∀ b, q b → b < w.heap.size → w'.heap[b]? = w.heap[b]?) (hs : w.heap.size ≤ w'.heap.size) (hq : ∀ b, b < w.heap.size → q b → q' b) : ∀ {ps : List Lfc.Ods} {xs : List Value}, ODRow q w ps xs → ODRow q' w' ps xs
 | [], xs, h => by rw [ODRow] at h ⊢; exact h
 | p :: r, xs, h => by
  rw [ODRow] at h ⊢
  obtain ⟨v, ys, rfl, ht, hr⟩ := h
  exact ⟨v, ys, rfl, OdsP.keep hk hs hq p v ht, hr.keep hk hs hq⟩
theorem ODRow.append {q : Nat → Prop} {w : World} {us : List Lfc.Ods} {zs : List Value} (hz : ODRow q w us zs) : ∀ {ps : List Lfc.Ods} {xs : List Value}, ODRow q w ps xs → ODRow q w (ps ++ us) (xs ++ zs)
 | [], xs, h => by rw [ODRow] at h; subst h; exact hz
 | p :: r, xs, h => by
  rw [ODRow] at h
  obtain ⟨v, ys, rfl, ht, hr⟩ := h
  rw [List.cons_append, ODRow]
  exact ⟨v, ys ++ zs, by simp, ht, ODRow.append hz hr⟩
theorem ODRow.lie {q : Nat → Prop} {w : World} {b : Nat} : ∀ {ps : List Lfc.Ods} {xs : List Value} {o : Nat}, ODRow q w ps xs → (∀ j u, xs[j]? = some u → w.cell? ⟨b, o + j, none⟩ = some u) → OdssP q w b ps o
 | [], _, _, _, _ => by rw [OdssP]; trivial
 | p :: r, xs, o, h, hc => by
  rw [ODRow] at h
  obtain ⟨v, ys, rfl, ht, hr⟩ := h
  rw [OdssP]
  refine ⟨⟨v, hc 0 _ rfl, ht⟩, hr.lie fun j u hj => ?_⟩
  have := hc (j + 1) u (by simpa using hj)
  rw [show o + 1 + j = o + (j + 1) by omega]
  exact this
def ChV (q : Nat → Prop) (w : World) (v : Value) : Prop := ∃ A n c, v = .slice A n c ∧ n ≤ 5000 ∧ LkO q w A n c
theorem ChV.keep {q q' : Nat → Prop} {w w' : World} (hk : ∀ b, q b → b < w.heap.size → w'.heap[b]? = w.heap[b]?) (hs : w.heap.size ≤ w'.heap.size) (hq : ∀ b, b < w.heap.size → q b → q' b) {v : Value} (h : ChV q w v) : ChV q' w' v := by
 obtain ⟨A, n, c, rfl, hn, hl⟩ := h
 exact ⟨A, n, c, rfl, hn, hl.keep hk hs hq⟩
mutual
def PfP (q : Nat → Prop) (w : World) : Lfc.Pf → Value → Value → Value → Value → Prop
 | .node ps, v0, v1, v2, v3 => (∃ ix, v0 = .int .i64 ix) ∧ (∃ A c, v1 = .slice A ps.length c ∧ ps.length ≤ c ∧ (ps ≠ [] → ∃ b o, A = some ⟨b, o, none⟩ ∧ b < w.heap.size ∧ q b ∧ PfsP q w b ps o)) ∧ ChV q w v2 ∧ ChV q w v3
def PfsP (q : Nat → Prop) (w : World) (b : Nat) : List Lfc.Pf → Nat → Prop
 | [], _ => True
 | p :: r, o => (∃ v0 v1 v2 v3, w.cell? ⟨b, o, none⟩ = some v0 ∧ w.cell? ⟨b, o + 1, none⟩ = some v1 ∧ w.cell? ⟨b, o + 2, none⟩ = some v2 ∧ w.cell? ⟨b, o + 3, none⟩ = some v3 ∧ PfP q w p v0 v1 v2 v3) ∧ PfsP q w b r (o + 4)
end
mutual
theorem PfP.keep {q q' : Nat → Prop} {w w' : World} (hk : ∀ b, q b → b < w.heap.size → w'.heap[b]? = w.heap[b]?) (hs : w.heap.size ≤ w'.heap.size) (hq : ∀ b, b < w.heap.size → q b → q' b) : ∀ (p : Lfc.Pf) (v0 v1 v2 v3 : Value), PfP q w p v0 v1 v2 v3 → PfP q' w' p v0 v1 v2 v3
 | .node ps, v0, v1, v2, v3, h => by
  rw [PfP] at h ⊢
  obtain ⟨h0, ⟨A, c, h3, h4, h5⟩, h6, h7⟩ := h
  refine ⟨h0, ⟨A, c, h3, h4, fun hne => ?_⟩, h6.keep hk hs hq, h7.keep hk hs hq⟩
  obtain ⟨b, o, hA, hlt, hqb, hts⟩ := h5 hne
  exact ⟨b, o, hA, Nat.lt_of_lt_of_le hlt hs, hq b hlt hqb, PfsP.keep hk hs hq ps b o hlt hqb hts⟩
theorem PfsP.keep {q q' : Nat → Prop} {w w' : World} (hk : ∀ b, q b → b < w.heap.size → w'.heap[b]? = w.heap[b]?) (hs : w.heap.size ≤ w'.heap.size) (hq : ∀ b, b < w.heap.size → q b → q' b) : ∀ (ps : List Lfc.Pf) (b o : Nat), b < w.heap.size → q b → PfsP q w b ps o → PfsP q' w' b ps o
 | [], _, _, _, _, _ => by rw [PfsP]; trivial
 | p :: r, b, o, hlt, hb, h => by
  rw [PfsP] at h ⊢
  obtain ⟨⟨v0, v1, v2, v3, c0, c1, c2, c3, ht⟩, hr⟩ := h
  have hc := fun j => World.cell?_of_block (a := ⟨b, j, none⟩) (hk b hb hlt)
  exact ⟨⟨v0, v1, v2, v3, (hc _).trans c0, (hc _).trans c1, (hc _).trans c2, (hc _).trans c3, PfP.keep hk hs hq p _ _ _ _ ht⟩, PfsP.keep hk hs hq r b (o + 4) hlt hb hr⟩
end
theorem PfsP.at_ {q : Nat → Prop} {w : World} {b : Nat} : ∀ (ps : List Lfc.Pf) (o i : Nat) (h : i < ps.length), PfsP q w b ps o → ∃ v0 v1 v2 v3, w.cell? ⟨b, o + i * 4, none⟩ = some v0 ∧ w.cell? ⟨b, o + i * 4 + 1, none⟩ = some v1 ∧ w.cell? ⟨b, o + i * 4 + 2, none⟩ = some v2 ∧ w.cell? ⟨b, o + i * 4 + 3, none⟩ = some v3 ∧ PfP q w ps[i] v0 v1 v2 v3
 | [], _, _, h, _ => by cases h
 | p :: r, o, i, hi, h => by
  rw [PfsP] at h
  cases i with
  | zero => simpa using h.1
  | succ i =>
   have := PfsP.at_ r (o + 4) i (by simpa using hi) h.2
   rw [show o + (i + 1) * 4 = o + 4 + i * 4 by omega]
   exact this
def PRow (q : Nat → Prop) (w : World) : List Lfc.Pf → List Value → Prop
 | [], xs => xs = []
 | p :: r, xs => ∃ v0 v1 v2 v3 ys, xs = v0 :: v1 :: v2 :: v3 :: ys ∧ PfP q w p v0 v1 v2 v3 ∧ PRow q w r ys
theorem PRow.keep {q q' : Nat → Prop} {w w' : World} (hk : ∀ b, q b → b < w.heap.size → w'.heap[b]? = w.heap[b]?) (hs : w.heap.size ≤ w'.heap.size) (hq : ∀ b, b < w.heap.size → q b → q' b) : ∀ {ps : List Lfc.Pf} {xs : List Value}, PRow q w ps xs → PRow q' w' ps xs
 | [], xs, h => by rw [PRow] at h ⊢; exact h
 | p :: r, xs, h => by
  rw [PRow] at h ⊢
  obtain ⟨v0, v1, v2, v3, ys, rfl, ht, hr⟩ := h
  exact ⟨v0, v1, v2, v3, ys, rfl, PfP.keep hk hs hq p _ _ _ _ ht, hr.keep hk hs hq⟩
theorem PRow.append {q : Nat → Prop} {w : World} {us : List Lfc.Pf} {zs : List Value} (hz : PRow q w us zs) : ∀ {ps : List Lfc.Pf} {xs : List Value}, PRow q w ps xs → PRow q w (ps ++ us) (xs ++ zs)
 | [], xs, h => by rw [PRow] at h; subst h; exact hz
 | p :: r, xs, h => by
  rw [PRow] at h
  obtain ⟨v0, v1, v2, v3, ys, rfl, ht, hr⟩ := h
  rw [List.cons_append, PRow]
  exact ⟨v0, v1, v2, v3, ys ++ zs, by simp, ht, PRow.append hz hr⟩
theorem PRow.one {q : Nat → Prop} {w : World} {p : Lfc.Pf} {v0 v1 v2 v3 : Value} (h : PfP q w p v0 v1 v2 v3) : PRow q w [p] [v0, v1, v2, v3] := ⟨v0, v1, v2, v3, [], rfl, h, rfl⟩
theorem PRow.lie {q : Nat → Prop} {w : World} {b : Nat} : ∀ {ps : List Lfc.Pf} {xs : List Value} {o : Nat}, PRow q w ps xs → (∀ j u, xs[j]? = some u → w.cell? ⟨b, o + j, none⟩ = some u) → PfsP q w b ps o
 | [], _, _, _, _ => by rw [PfsP]; trivial
 | p :: r, xs, o, h, hc => by
  rw [PRow] at h
  obtain ⟨v0, v1, v2, v3, ys, rfl, ht, hr⟩ := h
  rw [PfsP]
  refine ⟨⟨v0, v1, v2, v3, hc 0 _ rfl, hc 1 _ rfl, hc 2 _ rfl, hc 3 _ rfl, ht⟩, hr.lie fun j u hj => ?_⟩
  have := hc (j + 4) u (by simpa using hj)
  rw [show o + 4 + j = o + (j + 4) by omega]
  exact this
theorem pfp_none {q : Nat → Prop} {w : World} (ix : Int) : PfP q w (.node []) (.int .i64 ix) (.slice none 0 0) (.slice none 0 0) (.slice none 0 0) := by
 rw [PfP]
 exact ⟨⟨ix, rfl⟩, ⟨none, 0, rfl, Nat.le_refl _, fun h => absurd rfl h⟩, ⟨none, 0, 0, rfl, by omega, LkO.nil⟩, ⟨none, 0, 0, rfl, by omega, LkO.nil⟩⟩
end Go.Proofs.YtadjpadieljjlaaGreat
namespace Lfc
def Stp1 (ks : List Int) (fs : List Fact) (R : Nat → Int → Bool) (i : Nat) (s : Int) (j : Nat) : Prop := j ≠ i → 0 < stp ks fs i j → R j (max (stp ks fs i j) s) = true
def NoEnd (ks : List Int) (fs : List Fact) (r : Raw) (must : Int) (i : Nat) (s : Int) : Prop := ¬ (0 < upS ks (sd fs i) r ∧ must ≤ max (upS ks (sd fs i) r) s)
def Procd (ks : List Int) (fs : List Fact) (r : Raw) (must : Int) (R : Nat → Int → Bool) (i : Nat) (s : Int) : Prop := NoEnd ks fs r must i s ∧ ∀ j, j < 2 * fs.length → Stp1 ks fs R i s j
structure SInv (ks : List Int) (fs : List Fact) (l r : Raw) (must : Int) (R : Nat → Int → Bool) (zs : List (Nat × Int)) (K : Nat) (cur : Option (Nat × Int × Nat)) : Prop where
 sound : ∀ i s, R i s = true → Rch ks fs l i s
 queue : ∀ z ∈ zs, R z.1 z.2 = true
 start : ∀ i, i < K → 0 < upS ks l (sd fs i) → R i (upS ks l (sd fs i)) = true
 done : ∀ i s, R i s = true → (i, s) ∈ zs ∨ Procd ks fs r must R i s ∨ ∃ k, cur = some (i, s, k)
 cur : ∀ i s k, cur = some (i, s, k) → R i s = true ∧ NoEnd ks fs r must i s ∧ ∀ j, j < k → Stp1 ks fs R i s j
def setR (R : Nat → Int → Bool) (i : Nat) (s : Int) : Nat → Int → Bool := fun a b => R a b || (a == i && b == s)
theorem setR_old {R : Nat → Int → Bool} {i a : Nat} {s b : Int} (h : R a b = true) : setR R i s a b = true := by simp [setR, h]
theorem setR_new (R : Nat → Int → Bool) (i : Nat) (s : Int) : setR R i s i s = true := by simp [setR]
theorem setR_inv {R : Nat → Int → Bool} {i a : Nat} {s b : Int} (h : setR R i s a b = true) : R a b = true ∨ (a = i ∧ b = s) := by
 simpa [setR] using h
theorem setR_ne {R : Nat → Int → Bool} {i a : Nat} {s b : Int} (h : a ≠ i ∨ b ≠ s) : setR R i s a b = R a b := by
 rcases h with h | h <;> simp [setR, h]
variable {ks : List Int} {fs : List Fact} {l r : Raw} {must : Int} {R : Nat → Int → Bool} {zs : List (Nat × Int)} {K : Nat} {cur : Option (Nat × Int × Nat)}
theorem Stp1.mono {R' : Nat → Int → Bool} (hR : ∀ a b, R a b = true → R' a b = true) {i j : Nat} {s : Int} (h : Stp1 ks fs R i s j) : Stp1 ks fs R' i s j := fun h1 h2 => hR _ _ (h h1 h2)
theorem Procd.mono {R' : Nat → Int → Bool} (hR : ∀ a b, R a b = true → R' a b = true) {i : Nat} {s : Int} (h : Procd ks fs r must R i s) : Procd ks fs r must R' i s := ⟨h.1, fun j hj => (h.2 j hj).mono hR⟩
theorem SInv.reach (h : SInv ks fs l r must R zs K cur) {i : Nat} {s : Int} (hr : Rch ks fs l i s) : SInv ks fs l r must (setR R i s) (zs ++ [(i, s)]) K cur := by
 have hm : ∀ a b, R a b = true → setR R i s a b = true := fun a b h => setR_old h
 refine ⟨fun a b hab => ?_, fun z hz => ?_, fun a ha h0 => hm _ _ (h.start a ha h0), fun a b hab => ?_, fun a b k hc => ?_⟩
 ·rcases setR_inv hab with h1 | ⟨rfl, rfl⟩
  ·exact h.sound _ _ h1
  ·exact hr
 ·rcases List.mem_append.1 hz with hz | hz
  ·exact hm _ _ (h.queue z hz)
  ·simp only [List.mem_singleton] at hz
   subst hz
   exact setR_new _ _ _
 ·rcases setR_inv hab with h1 | ⟨rfl, rfl⟩
  ·rcases h.done _ _ h1 with h2 | h2 | h2
   ·exact .inl (List.mem_append_left _ h2)
   ·exact .inr (.inl (h2.mono hm))
   ·exact .inr (.inr h2)
  ·exact .inl (by simp)
 ·obtain ⟨h1, h2, h3⟩ := h.cur a b k hc
  exact ⟨hm _ _ h1, h2, fun j hj => (h3 j hj).mono hm⟩
theorem SInv.started (h : SInv ks fs l r must R zs K none) (h1 : 0 < upS ks l (sd fs K) → R K (upS ks l (sd fs K)) = true) : SInv ks fs l r must R zs (K + 1) none :=
 ⟨h.sound, h.queue, fun i hi h0 => by
  by_cases e : i = K
  ·subst e; exact h1 h0
  ·exact h.start i (by omega) h0, h.done, h.cur⟩
theorem SInv.pop {i : Nat} {s : Int} (h : SInv ks fs l r must R ((i, s) :: zs) K none) (he : NoEnd ks fs r must i s) : SInv ks fs l r must R zs K (some (i, s, 0)) := by
 refine ⟨h.sound, fun z hz => h.queue z (List.mem_cons_of_mem _ hz), h.start, fun a b hab => ?_, fun a b k hc => ?_⟩
 ·rcases h.done a b hab with h2 | h2 | ⟨k, h2⟩
  ·rcases List.mem_cons.1 h2 with h3 | h3
   ·cases h3
    exact .inr (.inr ⟨0, rfl⟩)
   ·exact .inl h3
  ·exact .inr (.inl h2)
  ·cases h2
 ·cases hc
  exact ⟨h.queue (i, s) (List.mem_cons_self ..), he, fun j hj => absurd hj (Nat.not_lt_zero _)⟩
theorem SInv.next {i k : Nat} {s : Int} (h : SInv ks fs l r must R zs K (some (i, s, k))) (h1 : Stp1 ks fs R i s k) : SInv ks fs l r must R zs K (some (i, s, k + 1)) := by
 refine ⟨h.sound, h.queue, h.start, fun a b hab => ?_, fun a b k' hc => ?_⟩
 ·rcases h.done a b hab with h2 | h2 | ⟨k, h2⟩
  ·exact .inl h2
  ·exact .inr (.inl h2)
  ·cases h2
   exact .inr (.inr ⟨_, rfl⟩)
 ·cases hc
  obtain ⟨h2, h3, h4⟩ := h.cur i s k rfl
  refine ⟨h2, h3, fun j hj => ?_⟩
  by_cases e : j = k
  ·subst e; exact h1
  ·exact h4 j (by omega)
theorem SInv.shut {i : Nat} {s : Int} (h : SInv ks fs l r must R zs K (some (i, s, 2 * fs.length))) : SInv ks fs l r must R zs K none := by
 obtain ⟨h2, h3, h4⟩ := h.cur i s _ rfl
 refine ⟨h.sound, h.queue, h.start, fun a b hab => ?_, fun a b k' hc => by cases hc⟩
 rcases h.done a b hab with h5 | h5 | ⟨k, h5⟩
 ·exact .inl h5
 ·exact .inr (.inl h5)
 ·cases h5
  exact .inr (.inl ⟨h3, h4⟩)
theorem SInv.init : SInv ks fs l r must (fun _ _ => false) [] 0 none :=
 ⟨fun _ _ h => (by cases h), fun z h => (by cases h), fun i h => absurd h (Nat.not_lt_zero _), fun _ _ h => (by cases h), fun _ _ _ h => (by cases h)⟩
theorem SInv.all (h : SInv ks fs l r must R [] (2 * fs.length) none) {i : Nat} {s : Int} (hr : Rch ks fs l i s) : R i s = true := by
 induction hr with
 | start i hi h0 => exact h.start i hi h0
 | step i j s hr hj hne hs ih =>
  rcases h.done i s ih with h1 | h1 | ⟨k, h1⟩
  ·cases h1
  ·exact h1.2 j hj hne hs
  ·cases h1
theorem SInv.no (h : SInv ks fs l r must R [] (2 * fs.length) none) (hd : ¬ must ≤ upS ks l r) : ¬ chn ks fs l r must := by
 rintro (h1 | ⟨i, s, h1, h2, h3⟩)
 ·exact hd h1
 ·rcases h.done i s (h.all h1) with h4 | h4 | ⟨k, h4⟩
  ·cases h4
  ·exact h4.1 ⟨h2, h3⟩
  ·cases h4
theorem SInv.yes (h : SInv ks fs l r must R zs K cur) {i : Nat} {s : Int} (hr : R i s = true) (h2 : 0 < upS ks (sd fs i) r) (h3 : must ≤ max (upS ks (sd fs i) r) s) : chn ks fs l r must := .inr ⟨i, s, h.sound i s hr, h2, h3⟩
def sides (n : Nat) : List (Nat × Int) := (List.range n).flatMap fun i => [(i, (1 : Int)), (i, 2)]
theorem sides_len (n : Nat) : (sides n).length = 2 * n := by
 simp [sides, List.length_flatMap, List.map_const', List.sum_replicate_nat]; omega
theorem sides_mem {n i : Nat} {s : Int} (hi : i < n) (hs : s = 1 ∨ s = 2) : (i, s) ∈ sides n := by
 simp only [sides, List.mem_flatMap, List.mem_range]
 exact ⟨i, hi, by rcases hs with rfl | rfl <;> simp⟩
def unr (n : Nat) (R : Nat → Int → Bool) : Nat := (sides n).countP fun z => !R z.1 z.2
theorem unr_le (n : Nat) (R : Nat → Int → Bool) : unr n R ≤ 2 * n := by
 rw [← sides_len]; exact List.countP_le_length
theorem countP_down {α : Type} {p p' : α → Bool} {x : α} (hx : p x = true) (hx' : p' x = false) (h : ∀ y, p' y = true → p y = true) : ∀ l : List α, x ∈ l → l.countP p' + 1 ≤ l.countP p
 | [], hm => by simp at hm
 | y :: l, hm => by
  have hle : l.countP p' ≤ l.countP p := List.countP_mono_left (fun z _ hz => h z hz)
  rw [List.countP_cons, List.countP_cons]
  rcases List.mem_cons.1 hm with rfl | hm
  ·rw [if_pos hx, if_neg (by simp [hx'])]
   omega
  ·have := countP_down hx hx' h l hm
   by_cases hy : p' y = true
   ·rw [if_pos hy, if_pos (h y hy)]; omega
   ·rw [if_neg hy]; split <;> omega
theorem unr_set {n i : Nat} {s : Int} (hi : i < n) (hs : s = 1 ∨ s = 2) (h : R i s = false) : unr n (setR R i s) + 1 ≤ unr n R :=
 countP_down (x := (i, s)) (by simp [h]) (by simp [setR_new]) (fun y hy => by
  cases hh : R y.1 y.2 with
  | false => rfl
  | true => rw [setR_old hh] at hy; cases hy) _ (sides_mem hi hs)
end Lfc
namespace Go.Proofs.YtadjpadieljjlaaGreat
open Go.RowKit Go.Maps
section
variable {P : Program} {w : World}
theorem run_append_none_c (base : Nat) (t ty e : TypeId) (i : TypeInfo) (size : Nat) (ht : P.underlying t = some (.slice e)) (hi : P.info? e = some i)
  (v : Value) (n c : Nat) (xs : List Value) (hown : w.ownsRow base e size v n xs) :
  (Builtin.append_ #[t, t] ty #[v, .slice none 0 c]).run P w = .ok v w := by
 rcases hown.2 with ⟨rfl, rfl⟩ | ⟨g, cap, cur, rfl, _, _, hnc, _⟩
 ·simp [Builtin.append_, run_underlying ht, sizeOf, typeInfo, hi, Builtin.lenOf, Builtin.firstCells]
 ·simp [Builtin.append_, run_underlying ht, sizeOf, typeInfo, hi, Builtin.lenOf, Builtin.firstCells, hnc, storeCells]
theorem wpList_append_none_c {ops : Array Oper} {rest : List Oper} {o : Oper} {a : Act} {Q : Exit → Act → World → Prop} (hgd : o.guard = none) (s x : Operand) (t : TypeId)
  (ho : o.op = .call { callee := .builtin .append, args := #[s, x], argTypes := #[t, t] })
  (base : Nat) (e : TypeId) (i : TypeInfo) (size : Nat) (ht : P.underlying t = some (.slice e)) (hi : P.info? e = some i)
  (v : Value) (n c : Nat) (xs : List Value) (hs : a.eval s = v) (hown : w.ownsRow base e size v n xs) (hx : a.eval x = .slice none 0 c)
  (h : wpList P ops Q rest (a.put o.dst v) w) : wpList P ops Q (o :: rest) a w := by
 refine wpList_plain hgd fun K hK => ?_
 have hrun := run_append_none_c (P := P) (w := w) base t o.type e i size ht hi v n c xs hown
 unfold Oper.wp
 simp [execOp, ho, resolve, invoke, builtin, hs, hx, hrun, Result.andThen]
 exact hK _ _ h
end
set_option maxRecDepth 100000 in
set_option maxHeartbeats 4000000 in
theorem growL_any (n : Nat) (w : World) (hn : n ≤ 10000000) :
  Calls Tryz.prog 168 #[.slice none 0 0, .int .i64 (n : Int)] w fun e w' => (∃ v, e = .returned v ∧ w'.ownsRow w.heap.size 93 7 v 0 []) ∧ Below w.heap.size w w' := by
 obtain ⟨i0, hi, hz0, hz1, hz2⟩ := info_parts linkInfo
 by_cases h0 : n = 0
 ·subst h0
  have h2 : IntKind.i64.wrap (0 - 0) = 0 := by decide
  simp only [Int.natCast_zero]
  go_enter Tryz.func168, Tryz.ntmps168
  go_wp2_with fail
  go_ret
  exact ⟨⟨_, rfl, World.ownsRow_nil w w.heap.size _ 7⟩, Below.refl _ _⟩
 ·have hn0 : ¬ ((n : Int) < 0) := by omega
  have h1 : IntKind.i64.wrap (0 - 0) = 0 := by decide
  have h2 : IntKind.i64.wrap ((n : Int) - 0) = (n : Int) := by rw [IntWalk.i64_in _ (by omega)]; omega
  have h3 : (n : Int) > 0 := by omega
  have h4 : decide ((n : Int) > 0) = true := by rw [decide_eq_true_eq]; exact h3
  have h5 : decide ((n : Int) < 0) = false := by rw [decide_eq_false_iff_not]; exact hn0
  have hold : (Builtin.firstCells i0.size 0 (.slice none 0 0)).run Tryz.prog w.drew = .ok (#[] : Array Value) w.drew := run_firstCells_none w.drew i0.size 0 0 0
  have hr : ∀ ty, (Builtin.append_ #[37, 3] ty #[.slice none 0 0, .int .i64 (n : Int)]).run Tryz.prog w = .ok (.slice (some ⟨w.heap.size, 0, none⟩) n (grownCap w n 0 93)) (w.drew.alloc (.cells (Builtin.zeroCells #[.int .i64 0, .int .i64 0, S [], .int .i64 0, .slice none 0 0, .slice none 0 0, .int .i64 0] n ++ Builtin.zeroCells #[.int .i64 0, .int .i64 0, S [], .int .i64 0, .slice none 0 0, .slice none 0 0, .int .i64 0] (grownCap w n 0 93 - n)) 93)) := fun ty => by
   have h := Lib.run_append_grow_zeros w 37 3 ty 93 i0 _ .i64 .i64 Tryz.underlying37 Tryz.underlying3 hi hz0 none 0 0 [] hold n (by omega) (by omega) (by omega) (by omega) (by rw [hz2]; omega) (by rw [Nat.zero_add]; exact growslice_fits (by omega) (by rw [hz2]; omega))
   rw [show (Value.agg #[.int .i64 0, .int .i64 0, S [], .int .i64 0, .slice none 0 0, .slice none 0 0, .int .i64 0]).cells = #[.int .i64 0, .int .i64 0, S [], .int .i64 0, .slice none 0 0, .slice none 0 0, .int .i64 0] from rfl] at h
   simpa using h
  have hG := grownCap_ge w n 0 93
  have hG2 := grownCap_le_maxLen w n 0 93 (by unfold maxLen; omega)
  obtain ⟨G, hG0⟩ : ∃ G, grownCap w n 0 93 = G := ⟨_, rfl⟩
  rw [hG0] at hr hG hG2
  obtain ⟨w1, hw1⟩ : ∃ w1, w.drew.alloc (.cells (Builtin.zeroCells #[.int .i64 0, .int .i64 0, S [], .int .i64 0, .slice none 0 0, .slice none 0 0, .int .i64 0] n ++ Builtin.zeroCells #[.int .i64 0, .int .i64 0, S [], .int .i64 0, .slice none 0 0, .slice none 0 0, .int .i64 0] (G - n)) 93) = w1 := ⟨_, rfl⟩
  rw [hw1] at hr
  have HZ : Hid (w1.ownsRow w.heap.size 93 7 (.slice (some ⟨w.heap.size, 0, none⟩) 0 G) 0 [] ∧ Below w.heap.size w w1) := Lib.hid (by
   refine ⟨⟨rfl, .inr ⟨w.heap.size, G, _, rfl, Nat.le_refl _, by rw [← hw1]; exact heap_alloc_new w.drew _, Nat.zero_le _, hG2, ?_, ?_⟩⟩, ?_⟩
   ·rw [Array.size_append, size_zeroCells, size_zeroCells]
    show n * 7 + (G - n) * 7 = G * 7
    omega
   ·simp
   ·rw [← hw1]; exact ((Below.refl _ _).drew).alloc (Nat.le_refl _) _)
  have hG3 : (0 : Int) ≤ (G : Int) := Int.natCast_nonneg _
  unfold maxLen at hG2
  clear hG0 hw1 hold
  go_enter Tryz.func168, Tryz.ntmps168
  go_wp2_with (at_builtin; refine Lib.wpList_append_run _ rfl _ _ _ _ rfl _ _ rfl rfl _ _ (hr _) ?_)
  all_goals
   go_ret
   exact ⟨⟨_, rfl, HZ.out.1⟩, HZ.out.2⟩
def PartsL (w : World) (g o : Nat) (Ls : List Part) : Prop := ∀ k (h : k < Ls.length), w.cell? ⟨g, o + k, none⟩ = some (.slice Ls[k].A Ls[k].n Ls[k].c) ∧ Ls[k].xs.length = Ls[k].n * 7 ∧ (Ls[k].A = none → Ls[k].n = 0) ∧ (∀ a, Ls[k].A = some a → ∀ j u, Ls[k].xs[j]? = some u → w.cell? (a.add j) = some u) ∧ (∀ u ∈ Ls[k].xs, u.oneCell' = true)
theorem PartsL.below {w w' : World} {g o : Nat} {Ls : List Part} (h : PartsL w g o Ls) (hb : Below w.heap.size w w') : PartsL w' g o Ls := fun k hk => by
 obtain ⟨h1, h2, h3, h4, h5⟩ := h k hk
 exact ⟨(hb.cell (World.block_lt_of_cell? w _ h1)).trans h1, h2, h3, fun a ha j u hj => (hb.cell (World.block_lt_of_cell? w _ (h4 a ha j u hj))).trans (h4 a ha j u hj), h5⟩
set_option maxRecDepth 100000 in
set_option maxHeartbeats 4000000 in
theorem concatL_any (g o c : Nat) (Ls : List Part) (w : World) (hL : Ls.length ≤ 1000) (hN : partsN Ls ≤ 10000000) (hP : PartsL w g o Ls) :
  Calls Tryz.prog 165 #[.slice (some ⟨g, o, none⟩) Ls.length c] w fun e w' => (∃ v, e = .returned v ∧ w'.ownsRow w.heap.size 93 7 v (partsN Ls) (partsX Ls)) ∧ Below w.heap.size w w' := by
 obtain ⟨i0, hi, hz0, hz1, hz2⟩ := info_parts linkInfo
 have HP := Lib.hid hP
 clear hP
 obtain ⟨N, hNN⟩ : ∃ N, partsN Ls = N := ⟨_, rfl⟩
 have HNN := Lib.hid hNN
 have hN2 : N ≤ 10000000 := by omega
 clear hN hNN
 have CG := Lib.hid (growL_any N w hN2)
 go_enter Tryz.func165, Tryz.ntmps165
 go_wp2_with fail
 go_loopw [3, 11] (fun s i wr => ∃ k : Nat, k ≤ Ls.length ∧ s = .int .i64 (partsN (Ls.take k) : Nat) ∧ i = .int .i64 (k : Int) ∧ wr = w) (fun _ i _ => Ls.length - (intOf i).toNat)
 case atStart => exact ⟨0, by omega, by simp [partsN], by simp, by simp⟩
 case round =>
  obtain ⟨k, hk, rfl, rfl, hwx⟩ := hrel
  subst hwx
  by_cases hlt : k < Ls.length
  ·obtain ⟨h1, h2, h3, h4, h5⟩ := HP.out k hlt
   have HS := Lib.hid (partsN_succ hlt)
   have hT : partsN (Ls.take (k + 1)) ≤ N := by rw [← HNN.out]; exact partsN_take _ _
   have hsum : partsN (Ls.take k) + Ls[k].n ≤ N := by rw [← HS.out]; exact hT
   have hi0 : (0 : Int) ≤ (k : Int) := Int.natCast_nonneg _
   have hi1 : (k : Int) < (Ls.length : Int) := by omega
   have hwr : IntKind.i64.wrap ((partsN (Ls.take k) : Int) + (Ls[k].n : Int)) = (partsN (Ls.take k) : Int) + (Ls[k].n : Int) := IntWalk.i64_in _ (by omega)
   have hd : decide ((partsN (Ls.take k) : Int) + (Ls[k].n : Int) < 0) = false := by rw [decide_eq_false_iff_not]; omega
   have hd2 : ¬ ((partsN (Ls.take k) : Int) + (Ls[k].n : Int) < 0) := by omega
   clear h2 h3 h4 h5 hT
   go_wp2_with fail
   go_roundw
   case rel => exact ⟨k + 1, by omega, by rw [HS.out]; go_num, by go_num, by simp⟩
   case measure => simp [intOf]; omega
  ·obtain rfl : k = Ls.length := by omega
   have hTE : partsN (Ls.take Ls.length) = N := by rw [List.take_length]; exact HNN.out
   rw [hTE]
   clear hTE
   go_wp2_with fail
   refine CG.out.mono ?_
   rintro e w2 ⟨⟨v, rfl, hown⟩, hb⟩
   have HW := Lib.hid (show w2.ownsRow wr.heap.size 93 7 v (partsN (Ls.take 0)) (partsX (Ls.take 0)) ∧ Below wr.heap.size wr w2 from ⟨hown, hb⟩)
   clear hown hb CG
   obtain ⟨wq, hwq⟩ : ∃ wq, wq = wr := ⟨_, rfl⟩
   subst hwq
   go_wp2_with fail
   go_loopw [6, 27] (fun v i wr => ∃ k : Nat, k ≤ Ls.length ∧ i = .int .i64 (k : Int) ∧ Hid (wr.ownsRow wq.heap.size 93 7 v (partsN (Ls.take k)) (partsX (Ls.take k)) ∧ Below wq.heap.size wq wr)) (fun _ i _ => Ls.length - (intOf i).toNat)
   case atStart => exact ⟨0, by omega, rfl, HW⟩
   case round =>
    obtain ⟨k, hk, rfl, HI⟩ := hrel
    obtain ⟨hown, hb⟩ := HI.out
    by_cases hlt : k < Ls.length
    ·obtain ⟨h1, h2, h3, h4, h5⟩ := (HP.out.below hb) k hlt
     have HS := Lib.hid (partsN_succ hlt)
     have HX := Lib.hid (partsX_succ hlt)
     have hT : partsN (Ls.take (k + 1)) ≤ N := by rw [← HNN.out]; exact partsN_take _ _
     have hsum : partsN (Ls.take k) + Ls[k].n ≤ N := by rw [← HS.out]; exact hT
     have hi0 : (0 : Int) ≤ (k : Int) := Int.natCast_nonneg _
     have hi1 : (k : Int) < (Ls.length : Int) := by omega
     generalize Ls[k] = P at *
     obtain ⟨PA, Pn, Pc, Px⟩ := P
     simp only at h1 h2 h3 h4 h5 hsum HS HX
     have HO := Lib.hid hown
     have HB := Lib.hid hb
     clear hown hb HI HW
     cases PA with
     | none =>
      obtain rfl := h3 rfl
      have hx0 : Px = [] := List.length_eq_zero_iff.1 (by omega)
      clear h2 h3 h4 h5
      go_wp2_with (at_builtin; refine wpList_append_none_c rfl _ _ 37 rfl wq.heap.size 93 i0 7 Tryz.underlying37 hi _ _ _ _ rfl HO.out rfl ?_)
      go_roundw
      case rel => exact ⟨k + 1, by omega, by go_num, Lib.hid ⟨by rw [HS.out, HX.out, hx0, Nat.add_zero, List.append_nil]; exact HO.out, HB.out⟩⟩
      case measure => simp [intOf]; omega
     | some a =>
      have H4 := Lib.hid (h4 a rfl)
      have H5 := Lib.hid h5
      have H2 := Lib.hid h2
      clear h2 h3 h4 h5
      go_wp2_with (at_builtin; refine wpList_append_own_at _ rfl _ _ 37 rfl wq.heap.size 93 i0 _ 7 96 Tryz.underlying37 hi hz0 hz1 hz2 rfl (by decide) _ _ _ rfl HO.out a Pn Pc Px rfl H2.out H4.out H5.out (by unfold maxLen; omega) (by omega) HB.out.size ?_)
      intro v9 w9 hown9 hg9 _ _
      have HZ : Hid (w9.ownsRow wq.heap.size 93 7 v9 (partsN (Ls.take (k + 1))) (partsX (Ls.take (k + 1))) ∧ Below wq.heap.size wq w9) := Lib.hid ⟨by rw [HS.out, HX.out]; exact hown9, Below.grown HB.out hg9 HB.out.size (fun b e => (HO.out.lt b e).1)⟩
      clear hown9 hg9
      go_wp2_with fail
      go_roundw
      case rel => exact ⟨k + 1, by omega, by go_num, HZ⟩
      case measure => simp [intOf]; omega
    ·obtain rfl : k = Ls.length := by omega
     rw [List.take_length] at hown
     have HZ := Lib.hid (And.intro hown hb)
     clear hown hb HI
     go_wp2_with fail
     go_ret
     exact ⟨⟨_, rfl, HZ.out.1⟩, HZ.out.2⟩
theorem LinkRow.of {q : Nat → Prop} {w : World} {b : Nat} : ∀ (l : List Lfc.Link) (o : Nat), (∀ i (h : i < l.length), LinkP q w b (o + i * 7) l[i]) → ∃ xs, LinkRow q w l xs ∧ CellsAt w b o xs
 | [], o, _ => ⟨[], by rw [LinkRow], fun j u h => by simp at h⟩
 | x :: r, o, h => by
  obtain ⟨xs, hx, hc⟩ := LinkRow.of r (o + 7) (fun i hi => by
   have := h (i + 1) (by simpa using hi)
   rw [show o + (i + 1) * 7 = o + 7 + i * 7 by omega] at this
   simpa using this)
  obtain ⟨k, n, p, ts, At, ct, A, c, e, h0, h1, h2, h3, h4, h5, h6, hcl, hi, ht⟩ := h 0 (by simp)
  simp only [Nat.zero_mul, Nat.add_zero, List.getElem_cons_zero] at e h0 h1 h2 h3 h4 h5 h6 hcl hi ht
  refine ⟨_, by rw [LinkRow]; exact ⟨k, n, p, ts, At, ct, A, c, xs, e, rfl, hcl, hi, ht, hx⟩, fun j u hj => ?_⟩
  match j, hj with
  | 0, hj => simp at hj; subst hj; exact h0
  | 1, hj => simp at hj; subst hj; exact h1
  | 2, hj => simp at hj; subst hj; exact h2
  | 3, hj => simp at hj; subst hj; exact h3
  | 4, hj => simp at hj; subst hj; exact h4
  | 5, hj => simp at hj; subst hj; exact h5
  | 6, hj => simp at hj; subst hj; exact h6
  | j + 7, hj =>
   have := hc j u (by simpa using hj)
   rw [show o + (j + 7) = o + 7 + j by omega]
   exact this
theorem LinkRow.cell1 {q : Nat → Prop} {w : World} : ∀ {l : List Lfc.Link} {xs : List Value}, LinkRow q w l xs → ∀ u ∈ xs, u.oneCell' = true
 | [], xs, h, u, hu => by rw [LinkRow] at h; subst h; simp at hu
 | x :: r, xs, h, u, hu => by
  rw [LinkRow] at h
  obtain ⟨k, n, p, ts, At, ct, A, c, ys, _, rfl, _, _, _, hr⟩ := h
  simp only [List.mem_cons] at hu
  rcases hu with rfl | rfl | rfl | rfl | rfl | rfl | rfl | hu
  all_goals first | rfl | exact hr.cell1 u hu
theorem LkO.cells {q : Nat → Prop} {w : World} {A : Option Addr} {n c : Nat} (h : LkO q w A n c) : ∃ l xs, l.length = n ∧ xs.length = n * 7 ∧ LinkRow q w l xs ∧ (∀ x ∈ l, x.term.size ≤ 1000000 ∧ x.path.length ≤ 10000000) ∧ (A = none → n = 0) ∧ (∀ a, A = some a → ∀ j u, xs[j]? = some u → w.cell? (a.add j) = some u) ∧ (∀ u ∈ xs, u.oneCell' = true) := by
 obtain ⟨hc, l, hl, hL, hs⟩ := h
 by_cases h0 : l = []
 ·subst h0
  simp only [List.length_nil] at hl
  subst hl
  exact ⟨[], [], rfl, rfl, by rw [LinkRow], hs, fun _ => rfl, fun _ _ j u h => by simp at h, fun u h => by simp at h⟩
 ·obtain ⟨b, o, rfl, hlt, hqb, hp⟩ := hL h0
  obtain ⟨xs, hx, hcs⟩ := LinkRow.of l o hp
  refine ⟨l, xs, hl, by rw [hx.len, hl], hx, hs, (fun e => by cases e), fun a ha j u hj => ?_, hx.cell1⟩
  cases ha
  rw [addr_add0]
  exact hcs j u hj
theorem partN2 (P Q : Part) : partsN [P, Q] = P.n + Q.n := by simp [partsN]
theorem partX2 (P Q : Part) : partsX [P, Q] = P.xs ++ Q.xs := by simp [partsX]
theorem cat2_any (q : Nat → Prop) (g : Nat) (T : TypeId) (A B : Option Addr) (n m c d : Nat) (w : World) (hg : w.heap[g]? = some (.cells #[.slice A n c, .slice B m d] T (0, 0))) (hA : LkO q w A n c) (hB : LkO q w B m d) (hn : n + m ≤ 100000) (hq : ∀ b, w.heap.size ≤ b → q b) :
  Calls Tryz.prog 165 #[.slice (some ⟨g, 0, none⟩) 2 2] w (fun e w' => (∃ A' c', e = .returned (.slice A' (n + m) c') ∧ LkO q w' A' (n + m) c') ∧ Below w.heap.size w w') := by
 obtain ⟨l, xs, hl, hxl, hx, hs, hA0, hAc, hA1⟩ := hA.cells
 obtain ⟨l2, ys, hl2, hyl, hy, hs2, hB0, hBc, hB1⟩ := hB.cells
 have hc := cells2e hg
 refine (concatL_any g 0 2 [⟨A, n, c, xs⟩, ⟨B, m, d, ys⟩] w (by simp) (by rw [partN2]; simp only; omega) ?_).mono ?_
 ·intro k hk
  have hk' : k < 2 := hk
  match k, hk' with
  | 0, _ => exact ⟨hc.1, hxl, hA0, hAc, hA1⟩
  | 1, _ => exact ⟨hc.2, hyl, hB0, hBc, hB1⟩
 ·rintro e w' ⟨⟨v, rfl, hown⟩, hb⟩
  rw [partN2, partX2] at hown
  simp only at hown
  obtain ⟨A', c', rfl, hc'⟩ := own_form hown
  have hrow : LinkRow q w' (l ++ l2) (xs ++ ys) := LinkRow.append (hy.keep (fun b _ hlt => hb.block b hlt) hb.size (fun _ _ h => h)) (hx.keep (fun b _ hlt => hb.block b hlt) hb.size (fun _ _ h => h))
  have hlen : (l ++ l2).length = n + m := by rw [List.length_append, hl, hl2]
  refine ⟨⟨A', c', rfl, hc', l ++ l2, hlen, linksP_own (by rw [hlen]; exact hown) hq hrow, fun x hx => ?_⟩, hb⟩
  rcases List.mem_append.1 hx with h | h
  ·exact hs x h
  ·exact hs2 x h
end Go.Proofs.YtadjpadieljjlaaGreat
