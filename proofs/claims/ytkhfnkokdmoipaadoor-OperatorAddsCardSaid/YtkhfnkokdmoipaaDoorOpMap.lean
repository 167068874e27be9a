/- The resolver: its map of operators, fail, operator. -/
import Derived.Test.YtkhfnkokdmoipaaDoorOpClone
set_option linter.unusedVariables false
set_option linter.unusedSimpArgs false
namespace Go.Proofs.YtkhfnkokdmoipaaDoor
open Go.RowKit Go.Maps Go.WideMaps

def opZ : Lfc.Op := ⟨[], 0, 0⟩
def opElem (v : Value) : Option (DataW Unit × List MemPlace) :=
  match v with
  | .agg ⟨[.string s, .int .i64 a, .int .i64 b]⟩ => some (.agg [.lit (.string s.data.toList), .lit (.int .i64 a), .lit (.int .i64 b)], [])
  | _ => none
def opD (o : Lfc.Op) : DataW Unit := .agg [.lit (.string o.name), .lit (.int .i64 o.fix), .lit (.int .i64 o.prec)]
theorem opElem_mk (o : Lfc.Op) : opElem (opV o) = some (opD o, []) := by simp [opElem, opV, opD]
theorem opElem_inv {v : Value} {z : DataW Unit × List MemPlace} (h : opElem v = some z) : ∃ o, v = opV o ∧ z = (opD o, []) := by
  unfold opElem at h
  split at h
  · rename_i s a b
    cases h
    exact ⟨⟨s.data.toList, a, b⟩, by simp [opV], by simp [opD]⟩
  · cases h
theorem opD_inj {o o' : Lfc.Op} (h : opD o = opD o') : o = o' := by
  obtain ⟨n, f, p⟩ := o
  obtain ⟨n', f', p'⟩ := o'
  simp [opD] at h
  obtain ⟨h1, h2, h3⟩ := h
  rw [h1, h2, h3]
/-- The map in block Mb holds just these operators. -/
def OpMap (w : World) (Mb N : Nat) (g : List UInt8 → Option Lfc.Op) : Prop := ∃ D : DataW Unit, w.ownsMap Tryd.prog 9 opElem Mb N D ∧ ∀ n : List UInt8, D.atKey (.string n) (opD opZ) = opD ((g n).getD opZ) ∧ Maps.has D (.string n) = (g n).isSome
theorem keyOf_name2 (n : List UInt8) (hn : n.length ≤ 1000000) : keyOf Tryd.prog 9 (S n) = some (.string n) := by
  simpa using keyOf_string_mk (P := Tryd.prog) Tryd.underlying9 (s := ⟨n.toArray⟩) (by simp [ByteArray.size]; unfold maxLen; omega)
theorem OpMap.look {w : World} {Mb N : Nat} {g : List UInt8 → Option Lfc.Op} (h : OpMap w Mb N g) (n : List UInt8) (hn : n.length ≤ 1000000) :
    (Instr.lookup 66 (.map (some Mb)) (S n) true).run Tryd.prog w = .ok (.tuple #[opV ((g n).getD opZ), .bool (g n).isSome]) w := by
  obtain ⟨D, hown, hD⟩ := h
  obtain ⟨v, ps, hrun, hv⟩ := hown.look_ok (string_keyed Tryd.underlying9) Tryd.underlying66 (z := opV opZ) (by kernel_rfl) (opElem_mk opZ) (keyOf_name2 n hn)
  rw [(hD n).1] at hv
  obtain ⟨o, rfl, hz⟩ := opElem_inv hv
  simp only [Prod.mk.injEq] at hz
  rw [(hD n).2, ← opD_inj hz.1] at hrun
  exact hrun
theorem OpMap.made (w : World) : OpMap (w.alloc (.map #[] 0)) w.heap.size 0 (fun _ => none) :=
  ⟨.map [], World.ownsMap_made _ _ _ _, fun n => ⟨rfl, rfl⟩⟩
theorem OpMap.kept {w w' : World} {Mb N : Nat} {g : List UInt8 → Option Lfc.Op} {row : Option Nat} (h : OpMap w Mb N g) (hg : w.grownBy w' row) (hne : some Mb ≠ row) : OpMap w' Mb N g := by
  obtain ⟨D, hown, hD⟩ := h
  exact ⟨D, hown.kept hg hne, hD⟩
theorem OpMap.lt {w : World} {Mb N : Nat} {g : List UInt8 → Option Lfc.Op} (h : OpMap w Mb N g) : Mb < w.heap.size := by
  obtain ⟨D, hown, _⟩ := h
  exact hown.lt
theorem OpMap.put {w : World} {Mb N : Nat} {g : List UInt8 → Option Lfc.Op} (h : OpMap w Mb N g) (hN : N ≤ 1000000000) (n : List UInt8) (hn : n.length ≤ 1000000) (o : Lfc.Op) :
    ∃ w', (Instr.mapUpdate 66 (.map (some Mb)) (S n) (opV o)).run Tryd.prog w = .ok () w' ∧ OpMap w' Mb (N + 1) (fun x => if x = n then some o else g x) ∧ Oth Mb w w' := by
  obtain ⟨D, hown, hD⟩ := h
  obtain ⟨w', hrun, hown', hturn⟩ := hown.store (string_keyed Tryd.underlying9) Tryd.underlying66 (by unfold maxLen; omega) (keyOf_name2 n hn) (opElem_mk o)
  refine ⟨w', hrun, ⟨_, hown', fun x => ?_⟩, hturn.grown⟩
  by_cases e : x = n
  · subst e
    rw [atKey_put_same hown.isMap (by simp [WideAt.IsKeyLit]), has_put_same hown.isMap (by simp [WideAt.IsKeyLit])]
    simp
  · rw [atKey_put_other (by simpa using e), has_put_other (by simpa using e)]
    simp only [if_neg e]
    exact hD x
theorem OpMap.congr {w : World} {Mb N : Nat} {g g' : List UInt8 → Option Lfc.Op} (h : OpMap w Mb N g) (e : ∀ n, g n = g' n) : OpMap w Mb N g' := by
  obtain rfl : g = g' := funext e
  exact h
theorem look_succ (l : List Lfc.Op) (j : Nat) (h : j < l.length) (n : List UInt8) : Lfc.look (l.take (j + 1)) n = if Lfc.look (l.take j) l[j].name = none ∧ n = l[j].name then some l[j] else Lfc.look (l.take j) n := by
  by_cases h1 : n = Lfc.arrR
  · have e : ∀ L, Lfc.look L n = some ⟨[], 5, -1⟩ := fun L => by unfold Lfc.look; rw [if_pos h1]
    rw [e, e, if_neg]
    rintro ⟨ha, hb⟩
    rw [← hb, e] at ha
    cases ha
  by_cases h2 : n = Lfc.arrL
  · have e : ∀ L, Lfc.look L n = some ⟨[], 4, -1⟩ := fun L => by unfold Lfc.look; rw [if_neg h1, if_pos h2]
    rw [e, e, if_neg]
    rintro ⟨ha, hb⟩
    rw [← hb, e] at ha
    cases ha
  have e : ∀ L, Lfc.look L n = L.find? (fun o => decide (o.name = n)) := fun L => by unfold Lfc.look; rw [if_neg h1, if_neg h2]
  rw [e, List.take_succ_eq_append_getElem h, List.find?_append]
  by_cases h3 : n = l[j].name
  · rw [← h3, e]
    cases hf : (l.take j).find? (fun o => decide (o.name = n)) with
    | none => simp [h3]
    | some o => simp
  · rw [if_neg (fun hc => h3 hc.2), e]
    have : [l[j]].find? (fun o => decide (o.name = n)) = none := by simp [Ne.symm h3]
    rw [this]; simp

/-- The resolver at Rb, its map at Mb; nothing below w0 has changed. -/
structure EnvR (w0 : World) (Rb Mb : Nat) (l : List Lfc.Op) (w : World) : Prop where
  rge : w0.heap.size ≤ Rb
  ne : Mb ≠ Rb
  bel : Below w0.heap.size w0 w
  cells : ∃ bad : Int, w.heap[Rb]? = some (.cells #[.map (some Mb), .int .i64 bad] 68 (0, 0))
  map : ∃ N, OpMap w Mb N (Lfc.look l)
theorem EnvR.new {w0 w w' : World} {Rb Mb : Nat} {l : List Lfc.Op} (h : EnvR w0 Rb Mb l w) (hb : Below w.heap.size w w') : EnvR w0 Rb Mb l w' := by
  obtain ⟨bad, hc⟩ := h.cells
  obtain ⟨N, hm⟩ := h.map
  exact ⟨h.rge, h.ne, h.bel.trans (hb.mono h.bel.size), ⟨bad, (hb.block _ (lt_of_block hc)).trans hc⟩, ⟨N, hm.kept (Oth.of_below (T := Rb) hb) (fun e => h.ne (Option.some.inj e))⟩⟩
theorem EnvR.oth {w0 w w' : World} {Rb Mb : Nat} {l : List Lfc.Op} (h : EnvR w0 Rb Mb l w) (ho : Oth Rb w w') {bad : Int} (hc : w'.heap[Rb]? = some (.cells #[.map (some Mb), .int .i64 bad] 68 (0, 0))) : EnvR w0 Rb Mb l w' := by
  obtain ⟨N, hm⟩ := h.map
  exact ⟨h.rge, h.ne, Oth.below h.bel ho h.rge h.bel.size, ⟨bad, hc⟩, ⟨N, hm.kept ho (fun e => h.ne (Option.some.inj e))⟩⟩
theorem EnvR.lt {w0 w : World} {Rb Mb : Nat} {l : List Lfc.Op} (h : EnvR w0 Rb Mb l w) : Rb < w.heap.size := by
  obtain ⟨bad, hc⟩ := h.cells
  exact lt_of_block hc
theorem EnvR.m0 {w0 w : World} {Rb Mb : Nat} {l : List Lfc.Op} (h : EnvR w0 Rb Mb l w) : w.cell? ⟨Rb, 0, none⟩ = some (.map (some Mb)) := by
  obtain ⟨bad, hc⟩ := h.cells
  exact Lib.cell_of_heap hc 0

theorem op_size : (Tryd.prog.info? 36).map (·.size) = some 3 := by kernel_rfl
theorem results_raw2 {fn : Func} {p u : Tmp} (h : fn.results = #[.cell p 39, .tmp u]) (tmps : Array Value) (w : World) (g : Nat) (v0 v1 v2 v3 : Value) (hp : tmps.getD p undef = .pointer (some ⟨g, 0, none⟩)) (hg : w.heap[g]? = some (.cells #[v0, v1, v2, v3] 39 (0, 0))) :
    (results fn tmps).run Tryd.prog w = .ok (.tuple #[.agg #[v0, v1, v2, v3], tmps.getD u undef]) w := by
  rw [results_cell_tmp h, hp]
  simp [asAddr, run_loadVar_row w g _ _ _ _ _ hg Tryd.underlying39 rfl raw_size, Result.andThen]
theorem results_op2 {fn : Func} {p u : Tmp} (h : fn.results = #[.cell p 36, .tmp u]) (tmps : Array Value) (w : World) (g : Nat) (v0 v1 v2 : Value) (hp : tmps.getD p undef = .pointer (some ⟨g, 0, none⟩)) (hg : w.heap[g]? = some (.cells #[v0, v1, v2] 36 (0, 0))) :
    (results fn tmps).run Tryd.prog w = .ok (.tuple #[.agg #[v0, v1, v2], tmps.getD u undef]) w := by
  rw [results_cell_tmp h, hp]
  simp [asAddr, run_loadVar_row w g _ _ _ _ _ hg Tryd.underlying36 rfl op_size, Result.andThen]
theorem results_op3 {fn : Func} {t p u : Tmp} (h : fn.results = #[.tmp t, .cell p 36, .tmp u]) (tmps : Array Value) (w : World) (g : Nat) (v0 v1 v2 : Value) (hp : tmps.getD p undef = .pointer (some ⟨g, 0, none⟩)) (hg : w.heap[g]? = some (.cells #[v0, v1, v2] 36 (0, 0))) :
    (results fn tmps).run Tryd.prog w = .ok (.tuple #[tmps.getD t undef, .agg #[v0, v1, v2], tmps.getD u undef]) w := by
  have hp' : tmps[p]?.getD undef = .pointer (some ⟨g, 0, none⟩) := by simpa using hp
  simp [results, h, hp', asAddr, run_loadVar_row w g _ _ _ _ _ hg Tryd.underlying36 rfl op_size]
/-- A struct of three cells is stored. -/
theorem put3 {W : World} {R : Nat} {a0 a1 a2 : Value} {t : TypeId} (h : W.heap[R]? = some (.cells #[a0, a1, a2] t (0, 0))) (v0 v1 v2 : Value) : ∃ s1 s2 s3, W.setCell ⟨R, 0, none⟩ v0 = s1 ∧ s1.setCell ⟨R, 1, none⟩ v1 = s2 ∧ s2.setCell ⟨R, 2, none⟩ v2 = s3 ∧
    (W.cell? ⟨R, 0, none⟩ = some a0 ∧ s1.cell? ⟨R, 1, none⟩ = some a1 ∧ s2.cell? ⟨R, 2, none⟩ = some a2) ∧
    (W.frozen? ⟨R, 0, none⟩ = false ∧ s1.frozen? ⟨R, 1, none⟩ = false ∧ s2.frozen? ⟨R, 2, none⟩ = false) ∧
    s3.heap[R]? = some (.cells #[v0, v1, v2] t (0, 0)) ∧ Oth R W s3 := by
  obtain ⟨s1, h1⟩ : ∃ s1, W.setCell ⟨R, 0, none⟩ v0 = s1 := ⟨_, rfl⟩
  obtain ⟨s2, h2⟩ : ∃ s2, s1.setCell ⟨R, 1, none⟩ v1 = s2 := ⟨_, rfl⟩
  obtain ⟨s3, h3⟩ : ∃ s3, s2.setCell ⟨R, 2, none⟩ v2 = s3 := ⟨_, rfl⟩
  have q1 : s1.heap[R]? = some (.cells #[v0, a1, a2] t (0, 0)) := by rw [← h1]; simp [World.setCell, Array.getElem?_modify, h]
  have q2 : s2.heap[R]? = some (.cells #[v0, v1, a2] t (0, 0)) := by rw [← h2]; simp [World.setCell, Array.getElem?_modify, q1]
  have q3 : s3.heap[R]? = some (.cells #[v0, v1, v2] t (0, 0)) := by rw [← h3]; simp [World.setCell, Array.getElem?_modify, q2]
  refine ⟨s1, s2, s3, h1, h2, h3, ⟨Lib.cell_of_heap h 0, Lib.cell_of_heap q1 1, Lib.cell_of_heap q2 2⟩, ⟨Lib.frozen_of_heap h 0, Lib.frozen_of_heap q1 1, Lib.frozen_of_heap q2 2⟩, q3, ?_⟩
  rw [← h3, ← h2, ← h1]
  exact ((Oth.set W v0).trans (Oth.set _ v1)).trans (Oth.set _ v2)
theorem cells3 {W : World} {g : Nat} {v0 v1 v2 : Value} {t : TypeId} (h : W.heap[g]? = some (.cells #[v0, v1, v2] t (0, 0))) : W.cell? ⟨g, 0, none⟩ = some v0 ∧ W.cell? ⟨g, 1, none⟩ = some v1 ∧ W.cell? ⟨g, 2, none⟩ = some v2 :=
  ⟨Lib.cell_of_heap h 0, Lib.cell_of_heap h 1, Lib.cell_of_heap h 2⟩

set_option maxRecDepth 100000 in
set_option maxHeartbeats 2000000 in
theorem fail_any (w0 : World) (Rb Mb : Nat) (l : List Lfc.Op) (e : Int) (w : World) (h : EnvR w0 Rb Mb l w) :
    Calls Tryd.prog 51 #[.pointer (some ⟨Rb, 0, none⟩), .int .i64 e] w fun x w' => x = .returned (.tuple #[.agg #[.int .i64 0, S [], .int .i64 0, .slice none 0 0], .bool false]) ∧ w'.heap[Rb]? = some (.cells #[.map (some Mb), .int .i64 e] 68 (0, 0)) ∧ Oth Rb w w' := by
  obtain ⟨bad, hc⟩ := h.cells
  obtain ⟨wa, hwa⟩ : ∃ wa, w.alloc (.cells #[.int .i64 0, S [], .int .i64 0, .slice none 0 0] 39) = wa := ⟨_, rfl⟩
  have ba : Below w.heap.size w wa := by rw [← hwa]; exact (Below.refl _ _).alloc (Nat.le_refl _) _
  have qa : wa.heap[w.heap.size]? = some (.cells #[.int .i64 0, S [], .int .i64 0, .slice none 0 0] 39 (0, 0)) := by rw [← hwa]; exact heap_alloc_new _ _
  have hlt := lt_of_block hc
  have hca := (ba.block _ hlt).trans hc
  have f1 := Lib.frozen_of_heap hca 1
  have x1 := Lib.cell_of_heap hca 1
  simp at x1
  obtain ⟨wb, hwb⟩ : ∃ wb, wa.setCell ⟨Rb, 1, none⟩ (.int .i64 e) = wb := ⟨_, rfl⟩
  have qb : wb.heap[Rb]? = some (.cells #[.map (some Mb), .int .i64 e] 68 (0, 0)) := by rw [← hwb]; simp [World.setCell, Array.getElem?_modify, hca]
  have ob : Oth Rb wa wb := by rw [← hwb]; exact Oth.set _ _
  obtain ⟨s1, s2, s3, s4, g1, g2, g3, g4, ⟨y0, y1, y2, y3⟩, ⟨f0', f1', f2', f3'⟩, hq, ho⟩ := put4 (ob.heap qa (by omega)) (.int .i64 0) (S []) (.int .i64 0) (.slice none 0 0)
  have HQ := Lib.hid hq
  have HO := Lib.hid ho
  have QB := Lib.hid qb
  have OB := Lib.hid ob
  have BA := Lib.hid ba
  clear hq ho qb ob ba qa hca hc h
  go_enter Tryd.func51, Tryd.ntmps51
  go_upto_region 1 with fail
  clear hwa
  go_wp2_with fail
  refine bodyPost_ret (results_raw2 rfl _ _ _ _ _ _ _ rfl HQ.out) rfl ?_
  refine ⟨rfl, HO.out.heap QB.out (by omega), ((Oth.of_below BA.out).trans OB.out).of_new ?_⟩
  have hs := OB.out.size
  have hs2 := BA.out.size
  exact ⟨HO.out.os, HO.out.tape, HO.out.output, HO.out.size, fun k hk => HO.out.block k (by omega) (fun e => by have := Option.some.inj e; omega)⟩
end Go.Proofs.YtkhfnkokdmoipaaDoor
