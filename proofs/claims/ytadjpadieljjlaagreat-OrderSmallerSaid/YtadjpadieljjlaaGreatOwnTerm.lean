/- The contracts of own.Term and own.Terms. -/
import Derived.Test.YtadjpadieljjlaaGreatTreeP
import Derived.Test.YtadjpadieljjlaaGreatOrStand2
set_option linter.unusedVariables false
set_option linter.unusedSimpArgs false
namespace Go.Proofs.YtadjpadieljjlaaGreat
open Go.RowKit
theorem tput4row {W : World} {g i : Nat} {xs : List Value} {cur : Array Value} {t : TypeId} (h : W.heap[g]? = some (.cells cur t (0, 0))) (hc : CellsAt W g 0 xs) (hi : i * 4 + 3 < xs.length) (v0 v1 v2 v3 : Value) : ∃ s1 s2 s3 s4 a0 a1 a2 a3, W.setCell ⟨g, i * 4, none⟩ v0 = s1 ∧ s1.setCell ⟨g, i * 4 + 1, none⟩ v1 = s2 ∧ s2.setCell ⟨g, i * 4 + 2, none⟩ v2 = s3 ∧ s3.setCell ⟨g, i * 4 + 3, none⟩ v3 = s4 ∧
    (W.cell? ⟨g, i * 4, none⟩ = some a0 ∧ s1.cell? ⟨g, i * 4 + 1, none⟩ = some a1 ∧ s2.cell? ⟨g, i * 4 + 2, none⟩ = some a2 ∧ s3.cell? ⟨g, i * 4 + 3, none⟩ = some a3) ∧
    (W.frozen? ⟨g, i * 4, none⟩ = false ∧ s1.frozen? ⟨g, i * 4 + 1, none⟩ = false ∧ s2.frozen? ⟨g, i * 4 + 2, none⟩ = false ∧ s3.frozen? ⟨g, i * 4 + 3, none⟩ = false) ∧
    CellsAt s4 g 0 ((((xs.set (i * 4) v0).set (i * 4 + 1) v1).set (i * 4 + 2) v2).set (i * 4 + 3) v3) ∧ Oth g W s4 ∧ (∃ cur2, s4.heap[g]? = some (.cells cur2 t (0, 0))) := by
  have fz : ∀ (j : Nat) (V : World) (v : Value) (c : Array Value), V.heap[g]? = some (.cells c t (0, 0)) → (V.setCell ⟨g, j, none⟩ v).heap[g]? = some (.cells (c.set! j v) t (0, 0)) := fun j V v c hV => by simp [World.setCell, Array.getElem?_modify, hV]
  have c1 := hc.set (j0 := i * 4) v0
  have c2 := c1.set (j0 := i * 4 + 1) v1
  have c3 := c2.set (j0 := i * 4 + 2) v2
  have c4 := c3.set (j0 := i * 4 + 3) v3
  simp only [Nat.zero_add] at c1 c2 c3 c4
  have h1 := fz (i * 4) W v0 _ h
  have h2 := fz (i * 4 + 1) _ v1 _ h1
  have h3 := fz (i * 4 + 2) _ v2 _ h2
  have h4 := fz (i * 4 + 3) _ v3 _ h3
  have e0 := hc (i * 4) _ (List.getElem?_eq_getElem (by omega))
  have e1 := c1 (i * 4 + 1) _ (List.getElem?_eq_getElem (by simp; omega))
  have e2 := c2 (i * 4 + 2) _ (List.getElem?_eq_getElem (by simp; omega))
  have e3 := c3 (i * 4 + 3) _ (List.getElem?_eq_getElem (by simp; omega))
  rw [Nat.zero_add] at e0 e1 e2 e3
  exact ⟨_, _, _, _, _, _, _, _, rfl, rfl, rfl, rfl, ⟨e0, e1, e2, e3⟩, ⟨Lib.frozen_of_heap h _, Lib.frozen_of_heap h1 _, Lib.frozen_of_heap h2 _, Lib.frozen_of_heap h3 _⟩, c4, (((Oth.set W v0).trans (Oth.set _ v1)).trans (Oth.set _ v2)).trans (Oth.set _ v3), _, h4⟩
theorem termInfo : (Tryz.prog.info? 51).map (fun i => (i.zero, i.size, i.bytes)) = some (some (.agg #[.int .i64 0, S [], .int .i64 0, .slice none 0 0]), 4, 56) := by kernel_rfl
/-- The zero term. -/
def zeroT : Lfc.Raw := .node 0 [] 0 []
def zeroRow (n : Nat) : List Value := (List.replicate n [Value.int .i64 0, S [], .int .i64 0, .slice none 0 0]).flatten
theorem zeroRow_len (n : Nat) : (zeroRow n).length = n * 4 := by simp [zeroRow]
theorem zeroRow_row (q : Nat → Prop) (w : World) : ∀ n, RowP q w (List.replicate n zeroT) (zeroRow n)
  | 0 => by simp [zeroRow, RowP]
  | n + 1 => by
    rw [List.replicate_succ, zeroRow, List.replicate_succ, List.flatten_cons, RowP]
    exact ⟨_, _, _, _, _, rfl, by rw [zeroT, TreeP]; exact ⟨rfl, rfl, Nat.zero_le _, rfl, none, 0, rfl, Nat.le_refl _, fun h => absurd rfl h⟩, zeroRow_row q w n⟩
theorem zeroRow_get : ∀ (n i : Nat), i < n * 4 → (zeroRow n)[i]? = [Value.int .i64 0, S [], .int .i64 0, .slice none 0 0][i % 4]?
  | 0, i, h => by omega
  | n + 1, i, h => by
    have e : zeroRow (n + 1) = [Value.int .i64 0, S [], .int .i64 0, .slice none 0 0] ++ zeroRow n := by rw [zeroRow, List.replicate_succ, List.flatten_cons]; rfl
    rw [e]
    by_cases hi : i < 4
    · rw [List.getElem?_append_left (by simpa using hi), Nat.mod_eq_of_lt hi]
    · rw [List.getElem?_append_right (by simp; omega)]
      have := zeroRow_get n (i - 4) (by omega)
      rw [show (i - [Value.int .i64 0, S [], .int .i64 0, .slice none 0 0].length) = i - 4 by rfl, this, show i % 4 = (i - 4) % 4 by omega]
theorem made_terms (n : Nat) : madeCells (Value.agg #[.int .i64 0, S [], .int .i64 0, .slice none 0 0]).cells (n * 4) = (zeroRow n).toArray := by
  rw [show (Value.agg #[.int .i64 0, S [], .int .i64 0, .slice none 0 0]).cells = #[.int .i64 0, S [], .int .i64 0, .slice none 0 0] from rfl]
  apply Array.ext
  · simp [madeCells, zeroRow_len]
  · intro i h1 h2
    have hi : i < n * 4 := by simpa [madeCells] using h1
    have hm : i % 4 < 4 := Nat.mod_lt _ (by decide)
    have h := zeroRow_get n i hi
    rw [List.getElem?_eq_getElem (by rw [zeroRow_len]; exact hi), List.getElem?_eq_getElem (by simpa using hm)] at h
    have h := Option.some.inj h
    have h3 := (List.getElem_toArray (xs := zeroRow n) (i := i) h2).trans h
    rw [h3]
    simp only [madeCells, Array.getElem_map, Array.getElem_range]
    rw [show (#[Value.int .i64 0, S [], .int .i64 0, .slice none 0 0] : Array Value).size = 4 from rfl, getElem!_pos _ _ (by simpa using hm)]
    rfl
theorem makeTerms (n : Nat) (hn : n ≤ 1000000) (W : World) : (Instr.makeSlice 27 (.int .i64 (n : Int)) (.int .i64 (n : Int))).run Tryz.prog W = .ok (.slice (some ⟨W.heap.size, 0, none⟩) n n) (W.alloc (.cells (zeroRow n).toArray 51)) := by
  obtain ⟨i0, hi, hz0, hz1, hz2⟩ := info_parts termInfo
  have hr := run_make (P := Tryz.prog) W 27 51 i0 (.agg #[.int .i64 0, S [], .int .i64 0, .slice none 0 0]) Tryz.underlying27 hi hz0 .i64 .i64 n n (by omega) (by omega) (by rw [hz2]; omega) (by omega)
  simp only [Int.toNat_natCast, hz1, made_terms] at hr
  exact hr
theorem cellsAt_made (W : World) (xs : List Value) (t : TypeId) : CellsAt (W.alloc (.cells xs.toArray t)) W.heap.size 0 xs := by
  intro j u hj
  rw [Lib.cell_of_heap (heap_alloc_new W _)]
  simpa using hj
theorem take_set (ts : List Lfc.Raw) (z : Lfc.Raw) (k : Nat) (h : k < ts.length) : (ts.take k ++ List.replicate (ts.length - k) z).set k ts[k] = ts.take (k + 1) ++ List.replicate (ts.length - (k + 1)) z := by
  have hl : (ts.take k).length = k := by rw [List.length_take]; omega
  obtain ⟨m, hm⟩ : ∃ m, ts.length - k = m + 1 := ⟨ts.length - k - 1, by omega⟩
  rw [List.set_append_right _ _ (by omega), hm, hl, Nat.sub_self, List.replicate_succ, List.set_cons_zero, show ts.length - (k + 1) = m by omega, List.take_succ_eq_append_getElem h, List.append_assoc]
  rfl
theorem enters_own : True := trivial
/-- What own.Term does at terms of at most so many nodes. -/
def OwnUpto (m : Nat) : Prop := ∀ (t : Lfc.Raw) (v : Value) (w : World), t.size ≤ m → TreeV w t v →
    Calls Tryz.prog 93 #[v] w fun e w' => (∃ v', e = .returned v' ∧ TreeVP (fun b => w.heap.size ≤ b) w' t v') ∧ Below w.heap.size w w'
theorem TreeVP.openT {q : Nat → Prop} {w : World} {k p : Int} {n : List UInt8} {ts : List Lfc.Raw} {v : Value} (h : TreeVP q w (.node k n p ts) v) : ∃ A c, v = .agg #[.int .i64 k, S n, .int .i64 p, .slice A ts.length c] ∧ TreeP q w (.node k n p ts) (.int .i64 k) (S n) (.int .i64 p) (.slice A ts.length c) := by
  obtain ⟨v0, v1, v2, v3, rfl, h⟩ := h
  have h' := h
  rw [TreeP] at h
  obtain ⟨rfl, rfl, _, rfl, A, c, rfl, _⟩ := h
  exact ⟨A, c, rfl, h'⟩
/-- The state of the loop of own.Terms. -/
def OwnI (w w1 : World) (ts : List Lfc.Raw) (k : Nat) (wr : World) : Prop := (∃ xs, RowP (fun b => w.heap.size < b) wr (ts.take k ++ List.replicate (ts.length - k) zeroT) xs ∧ CellsAt wr w.heap.size 0 xs) ∧ (∃ cur, wr.heap[w.heap.size]? = some (.cells cur 51 (0, 0))) ∧ Oth w.heap.size w1 wr

set_option maxRecDepth 100000 in
set_option maxHeartbeats 4000000 in
theorem ownTerms_any (m : Nat) (ih : OwnUpto m) (ts : List Lfc.Raw) (A : Option Addr) (c : Nat) (w : World) (hm : Lfc.Raw.sizes ts ≤ m) (hmax : ts.length ≤ 1000000) (h : TreesAt w A ts) :
    Calls Tryz.prog 110 #[.slice A ts.length c] w fun e w' => (∃ A' c', e = .returned (.slice A' ts.length c') ∧ ts.length ≤ c' ∧ TreesAtP (fun b => w.heap.size ≤ b) w' A' ts) ∧ Below w.heap.size w w' := by
  have HA := Lib.hid h
  have IH := Lib.hid ih
  clear h ih
  by_cases h0 : ts.length = 0
  · obtain rfl : ts = [] := List.length_eq_zero_iff.1 h0
    clear h0
    simp only [List.length_nil]
    go_enter Tryz.func110, Tryz.ntmps110
    go_wp2_with fail
    go_ret
    exact ⟨⟨none, 0, rfl, Nat.le_refl _, fun h => absurd rfl h⟩, Below.refl _ _⟩
  · have hz : ((ts.length : Int) == 0) = false := by simpa using h0
    have hz2 : (ts.length == 0) = false := by simpa using h0
    have hmk := fun W => makeTerms ts.length hmax W
    obtain ⟨w1, hw1⟩ : ∃ w1, w.alloc (.cells (zeroRow ts.length).toArray 51) = w1 := ⟨_, rfl⟩
    have b1 : Below w.heap.size w w1 := by rw [← hw1]; exact (Below.refl _ _).alloc (Nat.le_refl _) _
    have q1 : w1.heap[w.heap.size]? = some (.cells (zeroRow ts.length).toArray 51 (0, 0)) := by rw [← hw1]; exact heap_alloc_new _ _
    have l1 := lt_of_block q1
    have I0 : Hid (OwnI w w1 ts 0 w1) := Lib.hid ⟨⟨zeroRow ts.length, by rw [List.take_zero, List.nil_append, Nat.sub_zero]; exact zeroRow_row _ _ _, by rw [← hw1]; exact cellsAt_made _ _ _⟩, ⟨_, q1⟩, Oth.refl _ _⟩
    have B1 := Lib.hid b1
    clear b1 q1 h0
    go_enter Tryz.func110, Tryz.ntmps110
    go_wp2_with fail
    clear hmk
    go_loopw [14] (fun i wr => ∃ k : Nat, k ≤ ts.length ∧ i = .int .i64 (k : Int) ∧ Hid (OwnI w w1 ts k wr)) (fun i _ => ts.length - (intOf i).toNat)
    case atStart => exact ⟨0, by omega, rfl, I0⟩
    case round =>
      clear I0 hw1
      obtain ⟨k, hk, rfl, HI⟩ := hrel
      obtain ⟨⟨xs, hrow, hcells⟩, ⟨cur, hcur⟩, ho⟩ := HI.out
      have hbw : Below w.heap.size w wr := Oth.below B1.out ho (Nat.le_refl _) (by omega)
      have hsw := ho.size
      by_cases hlt : k < ts.length
      · obtain ⟨b, o, k1, n1, p1, us, B, c1, rfl, hb, ht, d0, d1, d2, d3, hcu, hB, hT⟩ := HA.out.at_ hlt
        have f0 := (hbw.cell (p := ⟨b, o + k * 4, none⟩) hb).trans d0
        have f1 := (hbw.cell (p := ⟨b, o + k * 4 + 1, none⟩) hb).trans d1
        have f2 := (hbw.cell (p := ⟨b, o + k * 4 + 2, none⟩) hb).trans d2
        have f3 := (hbw.cell (p := ⟨b, o + k * 4 + 3, none⟩) hb).trans d3
        have hi0 : (0 : Int) ≤ (k : Int) := Int.natCast_nonneg _
        have hi1 : (k : Int) < (ts.length : Int) := by omega
        have hmem := Lfc.Raw.sizes_mem ts ts[k] (List.getElem_mem _)
        obtain ⟨wx, hwx⟩ : ∃ wx, wr.alloc (.cells #[.int .i64 k1, S n1, .int .i64 p1, .slice B us.length c1] 51) = wx := ⟨_, rfl⟩
        have bx : Below wr.heap.size wr wx := by rw [← hwx]; exact (Below.refl _ _).alloc (Nat.le_refl _) _
        have qx : wx.heap[wr.heap.size]? = some (.cells #[.int .i64 k1, S n1, .int .i64 p1, .slice B us.length c1] 51 (0, 0)) := by rw [← hwx]; exact heap_alloc_new _ _
        have lx := lt_of_block qx
        obtain ⟨y0, y1, y2, y3⟩ := cells4t qx
        have CALL := Lib.hid (IH.out ts[k] _ wx (by omega) (hT.below (hbw.trans (bx.mono hbw.size))))
        have HROW := Lib.hid hrow
        have HCE := Lib.hid hcells
        have HCU := Lib.hid hcur
        have HO := Lib.hid ho
        have BX := Lib.hid bx
        have HTK := Lib.hid ht
        have HWX := Lib.hid hwx
        have hxl : xs.length = 4 * ts.length := by rw [hrow.len, List.length_append, List.length_take, List.length_replicate]; omega
        have HXL := Lib.hid hxl
        clear hrow hcells hcur ho bx qx hT hB ht d0 d1 d2 d3 hwx hbw HI hxl
        go_upto_region 7 with fail
        rw [HWX.out]
        go_wp2_with fail
        refine CALL.out.mono ?_
        rintro e w5 ⟨⟨v5, rfl, hv5⟩, b5⟩
        rw [HTK.out] at hv5
        obtain ⟨A5, c5, rfl, hp5⟩ := hv5.openT
        have lcur := lt_of_block HCU.out
        have b5r : Below wr.heap.size wr w5 := BX.out.trans (b5.mono BX.out.size)
        have hcur5 := (b5r.block _ lcur).trans HCU.out
        have hcells5 : CellsAt w5 w.heap.size 0 xs := fun j u hj => (b5r.cell (p := ⟨w.heap.size, 0 + j, none⟩) lcur).trans (HCE.out j u hj)
        obtain ⟨s1, s2, s3, s4, a0, a1, a2, a3, g1, g2, g3, g4, ⟨r0, r1, r2, r3⟩, ⟨t0, t1, t2, t3⟩, hc4, ho4, hcur4⟩ := tput4row (i := k) hcur5 hcells5 (by have := HXL.out; omega) (.int .i64 k1) (S n1) (.int .i64 p1) (.slice A5 us.length c5)
        have HN : Hid (OwnI w w1 ts (k + 1) s4) := Lib.hid (by
          refine ⟨⟨_, ?_, hc4⟩, hcur4, (HO.out.trans (Oth.of_below b5r)).trans ho4⟩
          rw [← take_set ts zeroT k hlt]
          refine RowP.set ?_ k (by rw [List.length_append, List.length_take, List.length_replicate]; omega) (RowP.keep (fun b hb hlt => ?_) (Nat.le_trans b5r.size ho4.size) (fun b _ hb => hb) HROW.out)
          · rw [HTK.out]
            refine TreeP.keep (fun b hb hlt => ?_) ho4.size (fun b _ hb => ?_) _ _ _ _ _ hp5
            · have hb : wx.heap.size ≤ b := hb
              exact ho4.block b hlt (fun e => by have := Option.some.inj e; omega)
            · have hb : wx.heap.size ≤ b := hb
              show w.heap.size < b
              omega
          · have hb : w.heap.size < b := hb
            exact (ho4.block b (Nat.lt_of_lt_of_le hlt b5r.size) (fun e => by have := Option.some.inj e; omega)).trans (b5r.block b hlt))
        clear hc4 ho4 hcur4 hcells5 hcur5 hp5 hv5 b5 b5r CALL
        go_wp2_with fail
        go_roundw
        case rel => exact ⟨k + 1, by omega, by go_num, HN⟩
        case measure => simp [intOf]; omega
      · obtain rfl : k = ts.length := by omega
        have HZ : Hid ((∃ A' c', Ending.returned (.slice (some ⟨w.heap.size, 0, none⟩) ts.length ts.length) = .returned (.slice A' ts.length c') ∧ ts.length ≤ c' ∧ TreesAtP (fun b => w.heap.size ≤ b) wr A' ts) ∧ Below w.heap.size w wr) := Lib.hid (by
          refine ⟨⟨_, _, rfl, Nat.le_refl _, fun _ => ⟨w.heap.size, 0, rfl, by omega, Nat.le_refl _, ?_⟩⟩, hbw⟩
          rw [List.take_length, Nat.sub_self, List.replicate_zero, List.append_nil] at hrow
          exact (RowP.keep (fun _ _ _ => rfl) (Nat.le_refl _) (fun b _ hb => by have hb : w.heap.size < b := hb; show w.heap.size ≤ b; omega) hrow).lie hcells)
        clear hrow hcells hcur ho hbw HI
        go_wp2_with fail
        go_ret
        exact HZ.out
theorem results_term {fn : Func} {p : Tmp} (h : fn.results = #[.cell p 51]) (tmps : Array Value) (w : World) (g : Nat) (v0 v1 v2 v3 : Value) (hp : tmps.getD p undef = .pointer (some ⟨g, 0, none⟩)) (hg : w.heap[g]? = some (.cells #[v0, v1, v2, v3] 51 (0, 0))) :
    (results fn tmps).run Tryz.prog w = .ok (.agg #[v0, v1, v2, v3]) w :=
  results_cell_row h tmps w g _ _ _ _ hp hg Tryz.underlying51 rfl term_size

set_option maxRecDepth 100000 in
set_option maxHeartbeats 4000000 in
theorem ownTerm_upto (m : Nat) (hm : m ≤ 1000000) : OwnUpto m := by
  induction m with
  | zero => intro t v w h; have := t.size_pos; omega
  | succ m ih =>
    intro t v w hsz hv
    obtain ⟨kd, nm, ps, ts⟩ := t
    have hnm := hv.name_le
    obtain ⟨A, c, rfl, hc, hA⟩ := hv.open_
    simp only [Lfc.Raw.size] at hsz
    have hlen := Lfc.Raw.sizes_len ts
    obtain ⟨w1, hw1⟩ : ∃ w1, w.alloc (.cells #[.int .i64 kd, S nm, .int .i64 ps, .slice A ts.length c] 51) = w1 := ⟨_, rfl⟩
    obtain ⟨w2, hw2⟩ : ∃ w2, w1.alloc (.cells #[.int .i64 0, S [], .int .i64 0, .slice none 0 0] 51) = w2 := ⟨_, rfl⟩
    have b1 : Below w.heap.size w w1 := by rw [← hw1]; exact (Below.refl _ _).alloc (Nat.le_refl _) _
    have b2 : Below w1.heap.size w1 w2 := by rw [← hw2]; exact (Below.refl _ _).alloc (Nat.le_refl _) _
    have q1 : w1.heap[w.heap.size]? = some (.cells #[.int .i64 kd, S nm, .int .i64 ps, .slice A ts.length c] 51 (0, 0)) := by rw [← hw1]; exact heap_alloc_new _ _
    have q2 : w2.heap[w1.heap.size]? = some (.cells #[.int .i64 0, S [], .int .i64 0, .slice none 0 0] 51 (0, 0)) := by rw [← hw2]; exact heap_alloc_new _ _
    have l1 := lt_of_block q1
    have l2 := lt_of_block q2
    have b02 : Below w.heap.size w w2 := b1.trans (b2.mono (by omega))
    have Q1 := Lib.hid ((b2.block _ l1).trans q1)
    have Q2 := Lib.hid q2
    have B02 := Lib.hid b02
    have hs2 := b02.size
    obtain ⟨y0, y1, y2, y3⟩ := cells4t Q1.out
    have CALL := Lib.hid (ownTerms_any m (ih (by omega)) ts A c w2 (by omega) (by omega) (hA.below b02))
    clear ih hv hA b1 b2 q1 q2 b02
    go_enter Tryz.func93, Tryz.ntmps93
    go_wp2_with fail
    refine CALL.out.mono ?_
    rintro e w3 ⟨⟨A3, c3, rfl, hc3, hA3⟩, b3⟩
    have q3 := (b3.block _ (by omega)).trans Q1.out
    have q3r := (b3.block _ l2).trans Q2.out
    have z3 := Lib.cell_of_heap q3 3
    have f3 := Lib.frozen_of_heap q3 3
    simp at z3
    obtain ⟨w4, hw4⟩ : ∃ w4, w3.setCell ⟨w.heap.size, 3, none⟩ (.slice A3 ts.length c3) = w4 := ⟨_, rfl⟩
    have o4 : Oth w.heap.size w3 w4 := by rw [← hw4]; exact Oth.set _ _
    have q4 : w4.heap[w.heap.size]? = some (.cells #[.int .i64 kd, S nm, .int .i64 ps, .slice A3 ts.length c3] 51 (0, 0)) := by rw [← hw4]; simp [World.setCell, Array.getElem?_modify, q3]
    have q4r := o4.heap q3r (show w1.heap.size ≠ w.heap.size by omega)
    obtain ⟨x0, x1, x2, x3⟩ := cells4t q4
    obtain ⟨s1, s2, s3, s4, g1, g2, g3, g4, ⟨r0, r1, r2, r3⟩, ⟨t0, t1, t2, t3⟩, hq, ho⟩ := tput4 q4r (.int .i64 kd) (S nm) (.int .i64 ps) (.slice A3 ts.length c3)
    have HQ := Lib.hid hq
    have HZ : Hid (TreeVP (fun b => w.heap.size ≤ b) s4 (.node kd nm ps ts) (.agg #[.int .i64 kd, S nm, .int .i64 ps, .slice A3 ts.length c3])) := Lib.hid (by
      refine TreeVP.mk hnm hc3 (hA3.keep (fun b hb hlt => ?_) (Nat.le_trans o4.size ho.size) (fun b _ hb => by have hb : w2.heap.size ≤ b := hb; show w.heap.size ≤ b; omega))
      have hb : w2.heap.size ≤ b := hb
      exact (ho.block b (Nat.lt_of_lt_of_le hlt o4.size) (fun e => by have := Option.some.inj e; omega)).trans (o4.block b hlt (fun e => by have := Option.some.inj e; omega)))
    have HB : Hid (Below w.heap.size w s4) := Lib.hid (Oth.below (Oth.below (B02.out.trans (b3.mono hs2)) o4 (Nat.le_refl _) (Nat.le_trans hs2 b3.size)) ho (by omega) (Nat.le_trans (Nat.le_trans hs2 b3.size) o4.size))
    clear hq ho q4 q4r o4 q3 q3r hA3 b3 CALL
    go_wp2_with fail
    refine bodyPost_ret (results_term rfl _ _ _ _ _ _ _ rfl HQ.out) rfl ?_
    exact ⟨⟨_, rfl, HZ.out⟩, HB.out⟩
end Go.Proofs.YtadjpadieljjlaaGreat
