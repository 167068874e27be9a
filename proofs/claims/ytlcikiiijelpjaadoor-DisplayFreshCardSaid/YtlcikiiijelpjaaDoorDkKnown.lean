/- Contract of display.known: the declarations and the operators by their names. -/
import Derived.Test.YtlcikiiijelpjaaDoorVMap
import Derived.Test.YtlcikiiijelpjaaDoorText
import Derived.Test.YtlcikiiijelpjaaDoorRawNames
import Derived.Deep.CutBlock
import Derived.Deep.DeepCutAuto
import Derived.Maps.AppendAt
import Derived.Laws.EntriesVeiled
set_option linter.unusedVariables false
set_option linter.unusedSimpArgs false
namespace Go.Proofs.YtlcikiiijelpjaaDoor
open Go.RowKit Go.Maps Go.WideMaps

def strCells (l : List (List UInt8)) : List Value := l.map S
theorem own_strs {w : World} {base c : Nat} {A : Option Addr} {l : List (List UInt8)} (h : w.ownsRow base 9 1 (.slice A l.length c) l.length (strCells l)) : NamesAt w A l := fun hne => by
  rcases h.2 with ⟨_, h0⟩ | ⟨g, cap, cur, hv, hbg, hg, _, _, _, _⟩
  · omega
  · injection hv with e1 _ e3
    subst e1 e3
    refine ⟨g, 0, rfl, lt_of_block hg, fun k hk => ?_⟩
    rw [Nat.zero_add, h.cellAt k (by omega)]
    simp [strCells, hk]
theorem str_info : ∃ i, Tryd.prog.info? 9 = some i ∧ i.zero = some (S []) ∧ i.size = 1 ∧ i.bytes = 16 := by
  obtain ⟨i0, hi, hz0, hz1, hz2⟩ := info_parts (show (Tryd.prog.info? 9).map (fun i => (i.zero, i.size, i.bytes)) = some (some (S []), 1, 16) by kernel_rfl)
  exact ⟨i0, hi, hz0, hz1, hz2⟩

/-- A declaration by its cells. -/
structure DVal where
  n : List UInt8
  k : Int
  m : List UInt8
  i : Int
  A : Option Addr
  l : Nat
  c : Nat
  p : Int
def DVal.v (d : DVal) : Value := .agg #[S d.n, .int .i64 d.k, S d.m, .int .i64 d.i, .slice d.A d.l d.c, .int .i64 d.p]
/-- An operator by its cells. -/
structure OVal where
  n : List UInt8
  f : Int
  p : Int
def OVal.v (d : OVal) : Value := .agg #[S d.n, .int .i64 d.f, .int .i64 d.p]
def zD : Value := .agg #[S [], .int .i64 0, S [], .int .i64 0, .slice none 0 0, .int .i64 0]
def zO : Value := .agg #[S [], .int .i64 0, .int .i64 0]
theorem zD_run (w : World) : (zeroValue 33).run Tryd.prog w = .ok zD w := by kernel_rfl
theorem zO_run (w : World) : (zeroValue 36).run Tryd.prog w = .ok zO w := by kernel_rfl
def gD (ds : List DVal) (n : List UInt8) : Option Value := (ds.find? (fun d => decide (d.n = n))).map DVal.v
def gO (ds : List OVal) (n : List UInt8) : Option Value := (ds.find? (fun d => decide (d.n = n))).map OVal.v
def DeclsAt (w : World) (A : Option Addr) (ds : List DVal) : Prop := ds ≠ [] → ∃ b o, A = some ⟨b, o, none⟩ ∧ b < w.heap.size ∧ ∀ i (h : i < ds.length),
  w.cell? ⟨b, o + i * 6, none⟩ = some (S ds[i].n) ∧ w.cell? ⟨b, o + i * 6 + 1, none⟩ = some (.int .i64 ds[i].k) ∧ w.cell? ⟨b, o + i * 6 + 2, none⟩ = some (S ds[i].m) ∧ w.cell? ⟨b, o + i * 6 + 3, none⟩ = some (.int .i64 ds[i].i) ∧ w.cell? ⟨b, o + i * 6 + 4, none⟩ = some (.slice ds[i].A ds[i].l ds[i].c) ∧ w.cell? ⟨b, o + i * 6 + 5, none⟩ = some (.int .i64 ds[i].p)
def OValsAt (w : World) (A : Option Addr) (ds : List OVal) : Prop := ds ≠ [] → ∃ b o, A = some ⟨b, o, none⟩ ∧ b < w.heap.size ∧ ∀ i (h : i < ds.length),
  w.cell? ⟨b, o + i * 3, none⟩ = some (S ds[i].n) ∧ w.cell? ⟨b, o + i * 3 + 1, none⟩ = some (.int .i64 ds[i].f) ∧ w.cell? ⟨b, o + i * 3 + 2, none⟩ = some (.int .i64 ds[i].p)
theorem find_succ {α : Type} (nm : α → List UInt8) (vf : α → Value) (ds : List α) (j : Nat) (h : j < ds.length) (n : List UInt8) :
    ((ds.take (j + 1)).find? (fun d => decide (nm d = n))).map vf = if ((ds.take j).find? (fun d => decide (nm d = nm ds[j]))).map vf = none ∧ n = nm ds[j] then some (vf ds[j]) else ((ds.take j).find? (fun d => decide (nm d = n))).map vf := by
  rw [List.take_succ_eq_append_getElem h, List.find?_append]
  by_cases h3 : n = nm ds[j]
  · rw [← h3]
    cases hf : (ds.take j).find? (fun d => decide (nm d = n)) with
    | none => simp [h3]
    | some o => simp
  · rw [if_neg (fun hc => h3 hc.2)]
    have : [ds[j]].find? (fun d => decide (nm d = n)) = none := by simp [Ne.symm h3]
    rw [this]; simp
theorem cells6 {W : World} {g : Nat} {v0 v1 v2 v3 v4 v5 : Value} {t : TypeId} (h : W.heap[g]? = some (.cells #[v0, v1, v2, v3, v4, v5] t (0, 0))) : W.cell? ⟨g, 0, none⟩ = some v0 ∧ W.cell? ⟨g, 1, none⟩ = some v1 ∧ W.cell? ⟨g, 2, none⟩ = some v2 ∧ W.cell? ⟨g, 3, none⟩ = some v3 ∧ W.cell? ⟨g, 4, none⟩ = some v4 ∧ W.cell? ⟨g, 5, none⟩ = some v5 :=
  ⟨Lib.cell_of_heap h 0, Lib.cell_of_heap h 1, Lib.cell_of_heap h 2, Lib.cell_of_heap h 3, Lib.cell_of_heap h 4, Lib.cell_of_heap h 5⟩
theorem cells3d {W : World} {g : Nat} {v0 v1 v2 : Value} {t : TypeId} (h : W.heap[g]? = some (.cells #[v0, v1, v2] t (0, 0))) : W.cell? ⟨g, 0, none⟩ = some v0 ∧ W.cell? ⟨g, 1, none⟩ = some v1 ∧ W.cell? ⟨g, 2, none⟩ = some v2 :=
  ⟨Lib.cell_of_heap h 0, Lib.cell_of_heap h 1, Lib.cell_of_heap h 2⟩
theorem wr_size : (Tryd.prog.info? 48).map (·.size) = some 3 := by kernel_rfl
theorem results_wr {fn : Func} {p u : Tmp} (h : fn.results = #[.cell p 48, .tmp u]) (tmps : Array Value) (w : World) (g : Nat) (v0 v1 v2 : Value) (hp : tmps.getD p undef = .pointer (some ⟨g, 0, none⟩)) (hg : w.heap[g]? = some (.cells #[v0, v1, v2] 48 (0, 0))) :
    (results fn tmps).run Tryd.prog w = .ok (.tuple #[.agg #[v0, v1, v2], tmps.getD u undef]) w := by
  rw [results_cell_tmp h, hp]
  simp [asAddr, run_loadVar_row w g _ _ _ _ _ hg Tryd.underlying48 rfl wr_size, Result.andThen]

/-- A struct of three cells is stored. -/
theorem put3d {W : World} {R : Nat} {a0 a1 a2 : Value} {t : TypeId} (h : W.heap[R]? = some (.cells #[a0, a1, a2] t (0, 0))) (v0 v1 v2 : Value) : ∃ s1 s2 s3, W.setCell ⟨R, 0, none⟩ v0 = s1 ∧ s1.setCell ⟨R, 1, none⟩ v1 = s2 ∧ s2.setCell ⟨R, 2, none⟩ v2 = s3 ∧
    (W.cell? ⟨R, 0, none⟩ = some a0 ∧ s1.cell? ⟨R, 1, none⟩ = some a1 ∧ s2.cell? ⟨R, 2, none⟩ = some a2) ∧
    (W.frozen? ⟨R, 0, none⟩ = false ∧ s1.frozen? ⟨R, 1, none⟩ = false ∧ s2.frozen? ⟨R, 2, none⟩ = false) ∧
    s3.heap[R]? = some (.cells #[v0, v1, v2] t (0, 0)) ∧ Oth R W s3 := by
  obtain ⟨s1, h1⟩ : ∃ s1, W.setCell ⟨R, 0, none⟩ v0 = s1 := ⟨_, rfl⟩
  obtain ⟨s2, h2⟩ : ∃ s2, s1.setCell ⟨R, 1, none⟩ v1 = s2 := ⟨_, rfl⟩
  obtain ⟨s3, h3⟩ : ∃ s3, s2.setCell ⟨R, 2, none⟩ v2 = s3 := ⟨_, rfl⟩
  have q1 : s1.heap[R]? = some (.cells #[v0, a1, a2] t (0, 0)) := by rw [← h1]; simp [World.setCell, Array.getElem?_modify, h]
  have q2 : s2.heap[R]? = some (.cells #[v0, v1, a2] t (0, 0)) := by rw [← h2]; simp [World.setCell, Array.getElem?_modify, q1]
  have q3 : s3.heap[R]? = some (.cells #[v0, v1, v2] t (0, 0)) := by rw [← h3]; simp [World.setCell, Array.getElem?_modify, q2]
  refine ⟨s1, s2, s3, h1, h2, h3, ⟨Lib.cell_of_heap h 0, Lib.cell_of_heap q1 1, Lib.cell_of_heap q2 2⟩, ⟨Lib.frozen_of_heap h 0, Lib.frozen_of_heap q1 1, Lib.frozen_of_heap q2 2⟩, q3, ?_⟩
  rw [← h3, ← h2, ← h1]
  exact ((Oth.set W v0).trans (Oth.set _ v1)).trans (Oth.set _ v2)
/-- The state of the loops: the result's variable, the writer, its maps. -/
structure KnI (w : World) (B N1 N2 : Nat) (g1 g2 : List UInt8 → Option Value) (W : World) : Prop where
  bel : Below w.heap.size w W
  r4 : W.heap[w.heap.size]? = some (.cells #[.map none, .map none, .bool false] 48 (0, 0))
  wr : W.heap[w.heap.size + 3]? = some (.cells #[.map (some (w.heap.size + 1)), .map (some (w.heap.size + 2)), .bool false] 48 (0, 0))
  m1 : VMap zD W (w.heap.size + 1) N1 g1
  m2 : VMap zO W (w.heap.size + 2) N2 g2
  hB : B = w.heap.size + 4
  size : B ≤ W.heap.size
theorem KnI.grow {w : World} {B N1 N2 : Nat} {g1 g2 : List UInt8 → Option Value} {W W' : World} (h : KnI w B N1 N2 g1 g2 W) {row : Option Nat} (hg : W.grownBy W' row) (hr : ∀ k, row = some k → B ≤ k) : KnI w B N1 N2 g1 g2 W' := by
  have hB := h.hB
  have hs := h.size
  refine ⟨h.bel.grown hg (by omega) (fun k e => by have := hr k e; omega), ?_, ?_, h.m1.kept hg (fun e => by have := hr _ e.symm; omega), h.m2.kept hg (fun e => by have := hr _ e.symm; omega), hB, Nat.le_trans hs hg.size⟩
  · exact (hg.block _ (by omega) (fun e => by have := hr _ e.symm; omega)).trans h.r4
  · exact (hg.block _ (by omega) (fun e => by have := hr _ e.symm; omega)).trans h.wr
theorem KnI.alloc {w : World} {B N1 N2 : Nat} {g1 g2 : List UInt8 → Option Value} {W : World} (h : KnI w B N1 N2 g1 g2 W) (o : Obj) : KnI w B N1 N2 g1 g2 (W.alloc o) :=
  h.grow (World.grownBy_alloc W o none) (fun k e => by cases e)
theorem KnI.put1 {w : World} {B N1 N2 N1' : Nat} {g1 g1' g2 : List UInt8 → Option Value} {W W' : World} (h : KnI w B N1 N2 g1 g2 W) (ho : Oth (w.heap.size + 1) W W') (hm : VMap zD W' (w.heap.size + 1) N1' g1') : KnI w B N1' N2 g1' g2 W' := by
  have hB := h.hB
  have hs := h.size
  exact ⟨Oth.below h.bel ho (by omega) (by omega), ho.heap h.r4 (by omega), ho.heap h.wr (by omega), hm, h.m2.kept ho (fun e => by have := Option.some.inj e; omega), hB, Nat.le_trans hs ho.size⟩
theorem KnI.put2 {w : World} {B N1 N2 N2' : Nat} {g1 g2 g2' : List UInt8 → Option Value} {W W' : World} (h : KnI w B N1 N2 g1 g2 W) (ho : Oth (w.heap.size + 2) W W') (hm : VMap zO W' (w.heap.size + 2) N2' g2') : KnI w B N1 N2' g1 g2' W' := by
  have hB := h.hB
  have hs := h.size
  exact ⟨Oth.below h.bel ho (by omega) (by omega), ho.heap h.r4 (by omega), ho.heap h.wr (by omega), h.m1.kept ho (fun e => by have := Option.some.inj e; omega), hm, hB, Nat.le_trans hs ho.size⟩
theorem strCells_snoc (l : List (List UInt8)) (n : List UInt8) : strCells (l ++ [n]) = strCells l ++ [S n] := by simp [strCells]

set_option maxRecDepth 100000 in
set_option maxHeartbeats 8000000 in
theorem known_any (ds : List DVal) (os : List OVal) (A1 A2 : Option Addr) (c1 c2 : Nat) (w : World) (hd : ds.length ≤ 1000) (ho : os.length ≤ 1000) (hdn : ∀ d ∈ ds, d.n.length ≤ 1000000) (hon : ∀ d ∈ os, d.n.length ≤ 1000000)
    (h1 : DeclsAt w A1 ds) (h2 : OValsAt w A2 os) :
    Calls Tryd.prog 16 #[.slice A1 ds.length c1, .slice A2 os.length c2] w fun e w' => ∃ (B N1 N2 : Nat) (A : Option Addr) (c : Nat),
      e = .returned (.tuple #[.agg #[.map (some (w.heap.size + 1)), .map (some (w.heap.size + 2)), .bool false], .slice A (ds.length + os.length) c]) ∧ Below w.heap.size w w' ∧ VMap zD w' (w.heap.size + 1) N1 (gD ds) ∧ VMap zO w' (w.heap.size + 2) N2 (gO os) ∧
      w'.ownsRow B 9 1 (.slice A (ds.length + os.length) c) (ds.length + os.length) (strCells (ds.map DVal.n ++ os.map OVal.n)) ∧ B = w.heap.size + 4 ∧ B ≤ w'.heap.size := by
  obtain ⟨it, hi, hz0, hz1, hz2⟩ := str_info
  have hmk1 : ∀ W : World, (Instr.makeMap 45 none).run Tryd.prog W = .ok (.map (some W.heap.size)) (W.alloc (.map #[] 0)) := fun W => rfl
  have hmk2 : ∀ W : World, (Instr.makeMap 46 none).run Tryd.prog W = .ok (.map (some W.heap.size)) (W.alloc (.map #[] 0)) := fun W => rfl
  obtain ⟨wd, hwd⟩ : ∃ wd, (((w.alloc (.cells #[.map none, .map none, .bool false] 48)).alloc (.map #[] 0)).alloc (.map #[] 0)).alloc (.cells #[.map (some (w.heap.size + 1)), .map (some (w.heap.size + 2)), .bool false] 48) = wd := ⟨_, rfl⟩
  have I0 : Hid (KnI w (w.heap.size + 4) 0 0 (gD []) (gO []) wd) := Lib.hid (by
    have k1 : ∀ (o1 : Obj), (w.alloc o1).heap.size = w.heap.size + 1 := fun o1 => by simp
    have k2 : ∀ (o1 o2 : Obj), ((w.alloc o1).alloc o2).heap.size = w.heap.size + 2 := fun o1 o2 => by simp
    have k3 : ∀ (o1 o2 o3 : Obj), (((w.alloc o1).alloc o2).alloc o3).heap.size = w.heap.size + 3 := fun o1 o2 o3 => by simp
    rw [← hwd]
    have a1 := heap_alloc_new w (.cells #[.map none, .map none, .bool false] 48)
    have m1 := VMap.made zD (w.alloc (.cells #[.map none, .map none, .bool false] 48))
    rw [k1] at m1
    have m2 := VMap.made zO ((w.alloc (.cells #[.map none, .map none, .bool false] 48)).alloc (.map #[] 0))
    rw [k2] at m2
    have a4 := heap_alloc_new (((w.alloc (.cells #[.map none, .map none, .bool false] 48)).alloc (.map #[] 0)).alloc (.map #[] 0)) (.cells #[.map (some (w.heap.size + 1)), .map (some (w.heap.size + 2)), .bool false] 48)
    rw [k3] at a4
    refine ⟨((((Below.refl _ w).alloc (Nat.le_refl _) _).alloc (by simp <;> omega) _).alloc (by simp <;> omega) _).alloc (by simp <;> omega) _, ?_, a4, ?_, ?_, rfl, by simp⟩
    · exact (Lib.alloc_old _ _ _ (by simp <;> omega)).trans ((Lib.alloc_old _ _ _ (by simp <;> omega)).trans ((Lib.alloc_old _ _ _ (by simp <;> omega)).trans a1))
    · exact ((m1.kept (World.grownBy_alloc _ _ none) (fun e => by cases e)).kept (World.grownBy_alloc _ _ none) (fun e => by cases e)).congr fun n => rfl
    · exact (m2.kept (World.grownBy_alloc _ _ none) (fun e => by cases e)).congr fun n => rfl)
  have HWD := Lib.hid hwd
  have H1 := Lib.hid h1
  have H2 := Lib.hid h2
  clear hwd h1 h2
  go_enter Tryd.func16, Tryd.ntmps16
  go_upto_region 2 with fail
  rw [HWD.out]
  clear HWD hmk1 hmk2
  generalize hBB : w.heap.size + 4 = B at *
  have HBB := Lib.hid hBB
  clear hBB
  go_wp2_with fail

  go_loopw [7, 21] (fun uv i wr => ∃ (j N : Nat) (A : Option Addr) (c : Nat), j ≤ ds.length ∧ i = .int .i64 j ∧ N ≤ j ∧ uv = .slice A j c ∧ Hid (KnI w B N 0 (gD (ds.take j)) (gO []) wr ∧ wr.ownsRow B 9 1 (.slice A j c) j (strCells ((ds.take j).map DVal.n)))) (fun _ i _ => ds.length - (intOf i).toNat)
  case atStart => exact ⟨0, 0, none, 0, Nat.zero_le _, rfl, Nat.le_refl _, rfl, Lib.hid ⟨I0.out, by simpa [strCells] using own_nil _ _ _ _⟩⟩
  case round =>
    obtain ⟨j, N, A, c, hj, rfl, hN, rfl, HI⟩ := hrel
    by_cases hlt : j < ds.length
    · have HLS := Lib.hid (fun n => find_succ DVal.n DVal.v ds j hlt n)
      obtain ⟨bl, ol, hAl, hbl, hcs'⟩ := H1.out (by intro e; rw [e] at hlt; simp at hlt)
      subst hAl
      obtain ⟨d0, d1, d2, d3, d4, d5⟩ := hcs' j hlt
      have hnl := hdn ds[j] (List.getElem_mem _)
      have e0 := (HI.out.1.bel.cell (p := ⟨bl, _, none⟩) hbl).trans d0
      have e1 := (HI.out.1.bel.cell (p := ⟨bl, _, none⟩) hbl).trans d1
      have e2 := (HI.out.1.bel.cell (p := ⟨bl, _, none⟩) hbl).trans d2
      have e3 := (HI.out.1.bel.cell (p := ⟨bl, _, none⟩) hbl).trans d3
      have e4 := (HI.out.1.bel.cell (p := ⟨bl, _, none⟩) hbl).trans d4
      have e5 := (HI.out.1.bel.cell (p := ⟨bl, _, none⟩) hbl).trans d5
      have hi0 : (0 : Int) ≤ (j : Int) := Int.natCast_nonneg _
      have hi1 : (j : Int) < (ds.length : Int) := by omega
      have HTK : Hid (((ds.take (j + 1)).map DVal.n) = ((ds.take j).map DVal.n) ++ [ds[j].n]) := Lib.hid (by simp only [List.take_succ_eq_append_getElem hlt, List.map_append, List.map_cons, List.map_nil, List.append_assoc])
      generalize hlj : ds[j] = dd at *
      obtain ⟨dn, dk, dm, di, dA, dl, dc, dp⟩ := dd
      simp only at d0 e0 d1 e1 d2 e2 d3 e3 d4 e4 d5 e5 hnl HTK
      clear d0 d1 d2 d3 d4 d5 hcs' hlj
      obtain ⟨w5, hw5⟩ : ∃ w5, wr.alloc (.cells #[S dn, .int .i64 dk, S dm, .int .i64 di, .slice dA dl dc, .int .i64 dp] 33) = w5 := ⟨_, rfl⟩
      have q5 : w5.heap[wr.heap.size]? = some (.cells #[S dn, .int .i64 dk, S dm, .int .i64 di, .slice dA dl dc, .int .i64 dp] 33 (0, 0)) := by rw [← hw5]; exact heap_alloc_new _ _
      have I5 := Lib.hid (show KnI w B N 0 (gD (ds.take j)) (gO []) w5 from by rw [← hw5]; exact HI.out.1.alloc _)
      have O5 : Hid (w5.ownsRow B 9 1 (.slice A j c) j (strCells ((ds.take j).map DVal.n))) := Lib.hid (by rw [← hw5]; exact HI.out.2.alloc _)
      have hlk := I5.out.m1.look 45 33 Tryd.underlying45 zD_run dn hnl
      obtain ⟨x0, x1, x2, x3, x4, x5⟩ := cells6 q5
      have r0 : w5.cell? ⟨w.heap.size + 3, 0, none⟩ = some (.map (some (w.heap.size + 1))) := Lib.cell_of_heap I5.out.wr 0
      have Q5 := Lib.hid q5
      have HW5 := Lib.hid hw5
      have h5lt := lt_of_block q5
      have h5B := I5.out.size
      have hrB := HI.out.1.size
      have hBw := HBB.out
      clear hw5 q5
      have hlm : j + 1 ≤ maxLen := by unfold maxLen; omega
      have hl16 : (j + 1) * 16 ≤ 140737488355328 := by omega
      cases hlo : gD (ds.take j) dn with
      | some o' =>
        rw [hlo] at hlk
        obtain ⟨o', rfl⟩ : ∃ d, o' = DVal.v d := by
          unfold gD at hlo
          cases hf : List.find? (fun d => decide (d.n = dn)) (ds.take j) with
          | none => rw [hf] at hlo; cases hlo
          | some d => rw [hf] at hlo; exact ⟨d, (Option.some.inj hlo).symm⟩
        obtain ⟨pn, pk, pm, pi, pA, pl, pc, pp⟩ := o'
        simp only [Option.getD_some, Option.isSome_some, DVal.v] at hlk
        obtain ⟨w6, hw6⟩ : ∃ w6, w5.alloc (.cells #[S pn, .int .i64 pk, S pm, .int .i64 pi, .slice pA pl pc, .int .i64 pp] 33) = w6 := ⟨_, rfl⟩
        have b6 : Below w5.heap.size w5 w6 := by rw [← hw6]; exact (Below.refl _ _).alloc (Nat.le_refl _) _
        have s6 := b6.size
        have I6 := Lib.hid (show KnI w B N 0 (gD (ds.take (j + 1))) (gO []) w6 from by
          rw [← hw6]
          have h := I5.out.alloc (.cells #[S pn, .int .i64 pk, S pm, .int .i64 pi, .slice pA pl pc, .int .i64 pp] 33)
          exact { h with m1 := h.m1.congr fun n => by have hl := HLS.out n; unfold gD at hlo ⊢; rw [hl, if_neg (by rw [hlo]; rintro ⟨h, _⟩; cases h)] })
        have O6 : Hid (w6.ownsRow B 9 1 (.slice A j c) j (strCells ((ds.take j).map DVal.n))) := Lib.hid (by rw [← hw6]; exact O5.out.alloc _)
        obtain ⟨y0, y1, y2, y3, y4, y5⟩ := cells6 ((b6.block _ h5lt).trans Q5.out)
        have HW6 := Lib.hid hw6
        clear hlo hw6 b6 
        go_upto_region 6 with fail
        rw [HW5.out]
        go_upto_region 7 with fail
        rw [HW6.out]
        go_wp2_with (at_builtin; refine wpList_append_own_at _ rfl _ _ 24 rfl B 9 it (S []) 1 16 Tryd.underlying24 hi hz0 hz1 hz2 rfl (by decide) _ _ _ rfl (O6.out.alloc _) ⟨w6.heap.size, 0, none⟩ 1 1 [S dn] rfl rfl (fun j v hj => cells_new w6 _ rfl [S dn] 9 j v hj) (by intro v hv; simp at hv; subst hv; rfl) hlm hl16 (by simp; omega) ?_)
        intro v9 w9 hown9 hg9 _ _
        obtain ⟨A9, c9, rfl⟩ := own_form hown9
        have HN : Hid (KnI w B N 0 (gD (ds.take (j + 1))) (gO []) w9 ∧ w9.ownsRow B 9 1 (.slice A9 (j + 1) c9) (j + 1) (strCells ((ds.take (j + 1)).map DVal.n))) := Lib.hid ⟨(I6.out.alloc _).grow hg9 (own_block_ge O6.out), by rw [HTK.out, strCells_snoc]; simpa [List.map_take, Nat.add_assoc] using hown9⟩
        clear hown9 hg9
        go_wp2_with fail
        go_roundw
        case rel => exact ⟨j + 1, N, A9, c9, by omega, by go_num, by omega, rfl, HN⟩
        case measure => simp [intOf]; omega
      | none =>
        rw [hlo] at hlk
        simp only [Option.getD_none, Option.isSome_none, zD] at hlk
        obtain ⟨w6, hw6⟩ : ∃ w6, w5.alloc (.cells #[S [], .int .i64 0, S [], .int .i64 0, .slice none 0 0, .int .i64 0] 33) = w6 := ⟨_, rfl⟩
        have b6 : Below w5.heap.size w5 w6 := by rw [← hw6]; exact (Below.refl _ _).alloc (Nat.le_refl _) _
        have I6 := Lib.hid (show KnI w B N 0 (gD (ds.take j)) (gO []) w6 from by rw [← hw6]; exact I5.out.alloc _)
        obtain ⟨w7, hp7, M7, o7⟩ := I6.out.m1.put 45 33 Tryd.underlying45 (by omega) dn hnl (DVal.v ⟨dn, dk, dm, di, dA, dl, dc, dp⟩)
        simp only [DVal.v] at hp7
        obtain ⟨y0, y1, y2, y3, y4, y5⟩ := cells6 ((b6.block _ h5lt).trans Q5.out)
        have r6 : w6.cell? ⟨w.heap.size + 3, 0, none⟩ = some (.map (some (w.heap.size + 1))) := Lib.cell_of_heap I6.out.wr 0
        have s67 := o7.size
        have s56 := b6.size
        have I7 := Lib.hid (show KnI w B (N + 1) 0 (gD (ds.take (j + 1))) (gO []) w7 from I6.out.put1 o7 (M7.congr fun n => by
          have hl := HLS.out n
          unfold gD at hlo ⊢
          rw [hl]
          simp [hlo, DVal.v]))
        have O7 : Hid (w7.ownsRow B 9 1 (.slice A j c) j (strCells ((ds.take j).map DVal.n))) := Lib.hid (by
          have h6 : w6.ownsRow B 9 1 (.slice A j c) j (strCells ((ds.take j).map DVal.n)) := by rw [← hw6]; exact O5.out.alloc _
          exact h6.kept o7 (.inr fun e => by have := own_block_ge h6 _ e; have := I6.out.hB; omega))
        obtain ⟨z0, z1, z2, z3, z4, z5⟩ := cells6 (o7.heap ((b6.block _ h5lt).trans Q5.out) (by have := I6.out.hB; omega))
        have HW6 := Lib.hid hw6
        clear hlo hw6 b6 M7 o7
        go_upto_region 6 with fail
        rw [HW5.out]
        go_upto_region 7 with fail
        rw [HW6.out]
        go_wp2_with (at_builtin; refine wpList_append_own_at _ rfl _ _ 24 rfl B 9 it (S []) 1 16 Tryd.underlying24 hi hz0 hz1 hz2 rfl (by decide) _ _ _ rfl (O7.out.alloc _) ⟨w7.heap.size, 0, none⟩ 1 1 [S dn] rfl rfl (fun j v hj => cells_new w7 _ rfl [S dn] 9 j v hj) (by intro v hv; simp at hv; subst hv; rfl) hlm hl16 (by simp; omega) ?_)
        intro v9 w9 hown9 hg9 _ _
        obtain ⟨A9, c9, rfl⟩ := own_form hown9
        have HN : Hid (KnI w B (N + 1) 0 (gD (ds.take (j + 1))) (gO []) w9 ∧ w9.ownsRow B 9 1 (.slice A9 (j + 1) c9) (j + 1) (strCells ((ds.take (j + 1)).map DVal.n))) := Lib.hid ⟨(I7.out.alloc _).grow hg9 (own_block_ge O7.out), by rw [HTK.out, strCells_snoc]; simpa [List.map_take, Nat.add_assoc] using hown9⟩
        clear hown9 hg9
        go_wp2_with fail
        go_roundw
        case rel => exact ⟨j + 1, (N + 1), A9, c9, by omega, by go_num, by omega, rfl, HN⟩
        case measure => simp [intOf]; omega
    · obtain rfl : j = ds.length := by omega
      have HE : Hid (KnI w B N 0 (gD ds) (gO (os.take 0)) wr ∧ wr.ownsRow B 9 1 (.slice A ds.length c) ds.length (strCells (ds.map DVal.n))) := Lib.hid (by simpa using HI.out)
      clear HI I0
      generalize hN1 : N = N1 at *
      generalize A = Ar at *
      generalize c = cr at *
      go_wp2_with fail
      go_loopw [7, 48] (fun uv i wr => ∃ (j N : Nat) (A : Option Addr) (c : Nat), j ≤ os.length ∧ i = .int .i64 j ∧ N ≤ j ∧ uv = .slice A (ds.length + j) c ∧ Hid (KnI w B N1 N (gD ds) (gO (os.take j)) wr ∧ wr.ownsRow B 9 1 (.slice A (ds.length + j) c) (ds.length + j) (strCells (ds.map DVal.n ++ (os.take j).map OVal.n)))) (fun _ i _ => os.length - (intOf i).toNat)
      case atStart => exact ⟨0, 0, Ar, cr, Nat.zero_le _, rfl, Nat.le_refl _, rfl, Lib.hid ⟨by simpa using HE.out.1, by simpa using HE.out.2⟩⟩
      case round =>
        obtain ⟨j, N, A, c, hj, rfl, hN, rfl, HI⟩ := hrel
        by_cases hlt : j < os.length
        · have HLS := Lib.hid (fun n => find_succ OVal.n OVal.v os j hlt n)
          obtain ⟨bl, ol, hAl, hbl, hcs'⟩ := H2.out (by intro e; rw [e] at hlt; simp at hlt)
          subst hAl
          obtain ⟨d0, d1, d2⟩ := hcs' j hlt
          have hnl := hon os[j] (List.getElem_mem _)
          have e0 := (HI.out.1.bel.cell (p := ⟨bl, _, none⟩) hbl).trans d0
          have e1 := (HI.out.1.bel.cell (p := ⟨bl, _, none⟩) hbl).trans d1
          have e2 := (HI.out.1.bel.cell (p := ⟨bl, _, none⟩) hbl).trans d2
          have hi0 : (0 : Int) ≤ (j : Int) := Int.natCast_nonneg _
          have hi1 : (j : Int) < (os.length : Int) := by omega
          have HTK : Hid ((ds.map DVal.n ++ (os.take (j + 1)).map OVal.n) = (ds.map DVal.n ++ (os.take j).map OVal.n) ++ [os[j].n]) := Lib.hid (by simp only [List.take_succ_eq_append_getElem hlt, List.map_append, List.map_cons, List.map_nil, List.append_assoc])
          generalize hlj : os[j] = dd at *
          obtain ⟨dn, dk, dm⟩ := dd
          simp only at d0 e0 d1 e1 d2 e2 hnl HTK
          clear d0 d1 d2 hcs' hlj
          obtain ⟨w5, hw5⟩ : ∃ w5, wr.alloc (.cells #[S dn, .int .i64 dk, .int .i64 dm] 36) = w5 := ⟨_, rfl⟩
          have q5 : w5.heap[wr.heap.size]? = some (.cells #[S dn, .int .i64 dk, .int .i64 dm] 36 (0, 0)) := by rw [← hw5]; exact heap_alloc_new _ _
          have I5 := Lib.hid (show KnI w B N1 N (gD ds) (gO (os.take j)) w5 from by rw [← hw5]; exact HI.out.1.alloc _)
          have O5 : Hid (w5.ownsRow B 9 1 (.slice A (ds.length + j) c) (ds.length + j) (strCells (ds.map DVal.n ++ (os.take j).map OVal.n))) := Lib.hid (by rw [← hw5]; exact HI.out.2.alloc _)
          have hlk := I5.out.m2.look 46 36 Tryd.underlying46 zO_run dn hnl
          obtain ⟨x0, x1, x2⟩ := cells3d q5
          have r1 : w5.cell? ⟨w.heap.size + 3, 1, none⟩ = some (.map (some (w.heap.size + 2))) := Lib.cell_of_heap I5.out.wr 1
          have Q5 := Lib.hid q5
          have HW5 := Lib.hid hw5
          have h5lt := lt_of_block q5
          have h5B := I5.out.size
          have hrB := HI.out.1.size
          have hBw := HBB.out
          clear hw5 q5
          have hlm : (ds.length + j) + 1 ≤ maxLen := by unfold maxLen; omega
          have hl16 : ((ds.length + j) + 1) * 16 ≤ 140737488355328 := by omega
          cases hlo : gO (os.take j) dn with
          | some o' =>
            rw [hlo] at hlk
            obtain ⟨o', rfl⟩ : ∃ d, o' = OVal.v d := by
              unfold gO at hlo
              cases hf : List.find? (fun d => decide (d.n = dn)) (os.take j) with
              | none => rw [hf] at hlo; cases hlo
              | some d => rw [hf] at hlo; exact ⟨d, (Option.some.inj hlo).symm⟩
            obtain ⟨pn, pk, pm⟩ := o'
            simp only [Option.getD_some, Option.isSome_some, OVal.v] at hlk
            obtain ⟨w6, hw6⟩ : ∃ w6, w5.alloc (.cells #[S pn, .int .i64 pk, .int .i64 pm] 36) = w6 := ⟨_, rfl⟩
            have b6 : Below w5.heap.size w5 w6 := by rw [← hw6]; exact (Below.refl _ _).alloc (Nat.le_refl _) _
            have s6 := b6.size
            have I6 := Lib.hid (show KnI w B N1 N (gD ds) (gO (os.take (j + 1))) w6 from by
              rw [← hw6]
              have h := I5.out.alloc (.cells #[S pn, .int .i64 pk, .int .i64 pm] 36)
              exact { h with m2 := h.m2.congr fun n => by have hl := HLS.out n; unfold gO at hlo ⊢; rw [hl, if_neg (by rw [hlo]; rintro ⟨h, _⟩; cases h)] })
            have O6 : Hid (w6.ownsRow B 9 1 (.slice A (ds.length + j) c) (ds.length + j) (strCells (ds.map DVal.n ++ (os.take j).map OVal.n))) := Lib.hid (by rw [← hw6]; exact O5.out.alloc _)
            obtain ⟨y0, y1, y2⟩ := cells3d ((b6.block _ h5lt).trans Q5.out)
            have HW6 := Lib.hid hw6
            clear hlo hw6 b6 
            go_upto_region 14 with fail
            rw [HW5.out]
            go_upto_region 15 with fail
            rw [HW6.out]
            go_wp2_with (at_builtin; refine wpList_append_own_at _ rfl _ _ 24 rfl B 9 it (S []) 1 16 Tryd.underlying24 hi hz0 hz1 hz2 rfl (by decide) _ _ _ rfl (O6.out.alloc _) ⟨w6.heap.size, 0, none⟩ 1 1 [S dn] rfl rfl (fun j v hj => cells_new w6 _ rfl [S dn] 9 j v hj) (by intro v hv; simp at hv; subst hv; rfl) hlm hl16 (by simp; omega) ?_)
            intro v9 w9 hown9 hg9 _ _
            obtain ⟨A9, c9, rfl⟩ := own_form hown9
            have HN : Hid (KnI w B N1 N (gD ds) (gO (os.take (j + 1))) w9 ∧ w9.ownsRow B 9 1 (.slice A9 (ds.length + (j + 1)) c9) (ds.length + (j + 1)) (strCells (ds.map DVal.n ++ (os.take (j + 1)).map OVal.n))) := Lib.hid ⟨(I6.out.alloc _).grow hg9 (own_block_ge O6.out), by rw [HTK.out, strCells_snoc]; simpa [List.map_take, Nat.add_assoc] using hown9⟩
            clear hown9 hg9
            go_wp2_with fail
            go_roundw
            case rel => exact ⟨j + 1, N, A9, c9, by omega, by go_num, by omega, rfl, HN⟩
            case measure => simp [intOf]; omega
          | none =>
            rw [hlo] at hlk
            simp only [Option.getD_none, Option.isSome_none, zO] at hlk
            obtain ⟨w6, hw6⟩ : ∃ w6, w5.alloc (.cells #[S [], .int .i64 0, .int .i64 0] 36) = w6 := ⟨_, rfl⟩
            have b6 : Below w5.heap.size w5 w6 := by rw [← hw6]; exact (Below.refl _ _).alloc (Nat.le_refl _) _
            have I6 := Lib.hid (show KnI w B N1 N (gD ds) (gO (os.take j)) w6 from by rw [← hw6]; exact I5.out.alloc _)
            obtain ⟨w7, hp7, M7, o7⟩ := I6.out.m2.put 46 36 Tryd.underlying46 (by omega) dn hnl (OVal.v ⟨dn, dk, dm⟩)
            simp only [OVal.v] at hp7
            obtain ⟨y0, y1, y2⟩ := cells3d ((b6.block _ h5lt).trans Q5.out)
            have r6 : w6.cell? ⟨w.heap.size + 3, 1, none⟩ = some (.map (some (w.heap.size + 2))) := Lib.cell_of_heap I6.out.wr 1
            have s67 := o7.size
            have s56 := b6.size
            have I7 := Lib.hid (show KnI w B N1 (N + 1) (gD ds) (gO (os.take (j + 1))) w7 from I6.out.put2 o7 (M7.congr fun n => by
              have hl := HLS.out n
              unfold gO at hlo ⊢
              rw [hl]
              simp [hlo, OVal.v]))
            have O7 : Hid (w7.ownsRow B 9 1 (.slice A (ds.length + j) c) (ds.length + j) (strCells (ds.map DVal.n ++ (os.take j).map OVal.n))) := Lib.hid (by
              have h6 : w6.ownsRow B 9 1 (.slice A (ds.length + j) c) (ds.length + j) (strCells (ds.map DVal.n ++ (os.take j).map OVal.n)) := by rw [← hw6]; exact O5.out.alloc _
              exact h6.kept o7 (.inr fun e => by have := own_block_ge h6 _ e; have := I6.out.hB; omega))
            obtain ⟨z0, z1, z2⟩ := cells3d (o7.heap ((b6.block _ h5lt).trans Q5.out) (by have := I6.out.hB; omega))
            have HW6 := Lib.hid hw6
            clear hlo hw6 b6 M7 o7
            go_upto_region 14 with fail
            rw [HW5.out]
            go_upto_region 15 with fail
            rw [HW6.out]
            go_wp2_with (at_builtin; refine wpList_append_own_at _ rfl _ _ 24 rfl B 9 it (S []) 1 16 Tryd.underlying24 hi hz0 hz1 hz2 rfl (by decide) _ _ _ rfl (O7.out.alloc _) ⟨w7.heap.size, 0, none⟩ 1 1 [S dn] rfl rfl (fun j v hj => cells_new w7 _ rfl [S dn] 9 j v hj) (by intro v hv; simp at hv; subst hv; rfl) hlm hl16 (by simp; omega) ?_)
            intro v9 w9 hown9 hg9 _ _
            obtain ⟨A9, c9, rfl⟩ := own_form hown9
            have HN : Hid (KnI w B N1 (N + 1) (gD ds) (gO (os.take (j + 1))) w9 ∧ w9.ownsRow B 9 1 (.slice A9 (ds.length + (j + 1)) c9) (ds.length + (j + 1)) (strCells (ds.map DVal.n ++ (os.take (j + 1)).map OVal.n))) := Lib.hid ⟨(I7.out.alloc _).grow hg9 (own_block_ge O7.out), by rw [HTK.out, strCells_snoc]; simpa [List.map_take, Nat.add_assoc] using hown9⟩
            clear hown9 hg9
            go_wp2_with fail
            go_roundw
            case rel => exact ⟨j + 1, (N + 1), A9, c9, by omega, by go_num, by omega, rfl, HN⟩
            case measure => simp [intOf]; omega
        · obtain rfl : j = os.length := by omega
          have HE2 : Hid (KnI w B N1 N (gD ds) (gO os) wr ∧ wr.ownsRow B 9 1 (.slice A (ds.length + os.length) c) (ds.length + os.length) (strCells (ds.map DVal.n ++ os.map OVal.n))) := Lib.hid (by simpa using HI.out)
          clear HI HE
          obtain ⟨t0, t1, t2⟩ := cells3d HE2.out.1.wr
          obtain ⟨s1, s2, s3, k1, k2, k3, ⟨p0, p1, p2⟩, ⟨f0, f1, f2⟩, hq, hot⟩ := put3d HE2.out.1.r4 (.map (some (w.heap.size + 1))) (.map (some (w.heap.size + 2))) (.bool false)
          have HQ := Lib.hid hq
          have HO := Lib.hid hot
          clear hq hot
          go_wp2_with fail
          refine bodyPost_ret (results_wr rfl _ _ _ _ _ _ rfl HQ.out) rfl ?_
          have hB := HE2.out.1.hB
          have hsz := HE2.out.1.size
          refine ⟨B, N1, N, A, c, rfl, Oth.below HE2.out.1.bel HO.out (Nat.le_refl _) (by omega), HE2.out.1.m1.kept HO.out (fun e => by have := Option.some.inj e; omega), HE2.out.1.m2.kept HO.out (fun e => by have := Option.some.inj e; omega), HE2.out.2.kept HO.out (.inr fun e => by have := own_block_ge HE2.out.2 _ e; omega), hB, Nat.le_trans hsz HO.out.size⟩
end Go.Proofs.YtlcikiiijelpjaaDoor
