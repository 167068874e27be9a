/- Contracts of the reference's two and format. -/
import Derived.Test.YtmdhkcefbkdkbaaDoorRawRFree4
set_option linter.unusedVariables false
set_option linter.unusedSimpArgs false
namespace Go.Proofs.YtmdhkcefbkdkbaaDoor
open Go.RowKit Go.Maps Go.WideMaps

section
variable {P : Program} (w : World)
theorem step_append_strB {ops : Array Oper} {o : Oper} {a : Act} {K : Act → World → Prop} {Q : Exit → Act → World → Prop} {E : Prop} (hgd : o.guard = none) (sl x : Operand) (t u : TypeId)
    (ho : o.op = .call { callee := .builtin .append, args := #[sl, x], argTypes := #[t, u] })
    (base : Nat) (e : TypeId) (i : TypeInfo) (ht : P.underlying t = some (.slice e)) (hu : P.underlying u = some .string) (hi : P.info? e = some i) (hz : i.zero = some (.int .u8 0))
    (hsize : i.size = 1) (hby : i.bytes = 1)
    (v : Value) (n : Nat) (xs : List Value) (hs : a.eval sl = v) (hown : w.ownsRow base e 1 v n xs) (s : ByteArray) (hx : a.eval x = .string s)
    (h63 : n + s.size ≤ maxLen) (hbytes : n + s.size ≤ 140737488355328) (hbase : base ≤ w.heap.size)
    (h : ∀ v' w', w'.ownsRow base e 1 v' (n + s.size) (xs ++ Lib.strCells s) → w.grownBy w' v.ownBlock → K (a.put o.dst v') w') :
    if Region.wanted o (yielded ops a.tmps) = true then Oper.wp P o a w K Q else E := by
  have hw : Region.wanted o (yielded ops a.tmps) = true := by simp [Region.wanted, hgd]
  rw [if_pos hw]
  obtain ⟨v', w', hr, h2, h3, _⟩ := Lib.run_append_own_string (P := P) w base t u o.type e i ht hu hi hz hsize hby v n xs hown s h63 hbytes hbase
  unfold Oper.wp execOp
  simp only [ho, resolve, invoke, builtin, Sem.run_bind, Sem.run_pure, Result.andThen_ok, List.map_toArray, List.map_cons, List.map_nil, hs, hx, hr]
  exact h v' w' h2 h3
end

/-- Blocks of other types than bytes stand. -/
def KeptU (w w' : World) : Prop := ∀ (k : Nat) (c : Array Value) (t : TypeId), w.heap[k]? = some (.cells c t (0, 0)) → t ≠ 5 → w'.heap[k]? = some (.cells c t (0, 0))
theorem KeptU.trans {w w' w'' : World} (h : KeptU w w') (h' : KeptU w' w'') : KeptU w w'' := fun k c t hk h1 => h' k c t (h k c t hk h1) h1
theorem KeptU.new {w w' : World} (h : Below w.heap.size w w') : KeptU w w' := fun k _ _ hk _ => (h.block k (lt_of_block hk)).trans hk
theorem KeptU.grown {w w' : World} {base n : Nat} {v : Value} {xs : List Value} (hown : w.ownsRow base 5 1 v n xs) (hg : w.grownBy w' v.ownBlock) : KeptU w w' := fun k c t hk h1 =>
  (hg.block k (lt_of_block hk) (fun e => Lib.ownBlock_ne hown hk h1 e.symm)).trans hk
/-- A frame of format: the row of bytes, the tree's box. -/
structure BS (w0 : World) (w : World) (R : Nat) (box : Array Value) (acc : List UInt8) (wr : World) (vr : Value) : Prop where
  own : wr.ownsRow w0.heap.size 5 1 vr acc.length (Lib.byteCells acc)
  kept : KeptU w wr
  bel : Below w0.heap.size w0 wr
  box : wr.heap[R]? = some (.cells box 42 (0, 0))
theorem BS.next {w0 w wr w2 : World} {vr v2 : Value} {R : Nat} {box : Array Value} {acc acc' : List UInt8} (h : BS w0 w R box acc wr vr) (hown : w2.ownsRow w0.heap.size 5 1 v2 acc'.length (Lib.byteCells acc')) (hg : KeptU wr w2) (hb : Below w0.heap.size w0 w2) : BS w0 w R box acc' w2 v2 :=
  ⟨hown, h.kept.trans hg, hb, hg _ _ _ h.box (by decide)⟩
theorem BS.new {w0 w wr w2 : World} {vr : Value} {R : Nat} {box : Array Value} {acc : List UInt8} (h : BS w0 w R box acc wr vr) (hb : Below wr.heap.size wr w2) : BS w0 w R box acc w2 vr :=
  h.next (own_below h.own hb) (KeptU.new hb) (h.bel.trans (hb.mono h.bel.size))
/-- Bytes are put behind the row. -/
theorem BS.push {w0 w wr w2 : World} {vr v' : Value} {R : Nat} {box : Array Value} {acc bs : List UInt8} (h : BS w0 w R box acc wr vr) (hown2 : w2.ownsRow w0.heap.size 5 1 v' (acc.length + bs.length) (Lib.byteCells acc ++ Lib.byteCells bs)) (hg2 : wr.grownBy w2 vr.ownBlock) : BS w0 w R box (acc ++ bs) w2 v' := by
  have e : Lib.byteCells (acc ++ bs) = Lib.byteCells acc ++ Lib.byteCells bs := by simp [Lib.byteCells]
  exact h.next (by rw [e, List.length_append]; exact hown2) (KeptU.grown h.own hg2) (h.bel.grown hg2 h.bel.size (own_block_ge h.own))
theorem BS.pushS {w0 w wr w2 : World} {vr v' : Value} {R : Nat} {box : Array Value} {acc bs : List UInt8} (h : BS w0 w R box acc wr vr) (hown2 : w2.ownsRow w0.heap.size 5 1 v' (acc.length + (⟨bs.toArray⟩ : ByteArray).size) (Lib.byteCells acc ++ Lib.strCells ⟨bs.toArray⟩)) (hg2 : wr.grownBy w2 vr.ownBlock) : BS w0 w R box (acc ++ bs) w2 v' := by
  rw [bsize] at hown2
  exact h.push (by simpa [Lib.strCells, Lib.byteCells] using hown2) hg2
def RFmtUpto (w0 : World) (q : List (List UInt8)) (Aq : Option Addr) (cq : Nat) (m : Nat) : Prop := ∀ (t : Lfc.Raw) (v : Value) (w : World) (acc : List UInt8) (vb : Value), t.size ≤ m → t.form = true → TreeV w0 t v → Below w0.heap.size w0 w → w.ownsRow w0.heap.size 5 1 vb acc.length (Lib.byteCells acc) → acc.length + (t.text q).length ≤ 10000000000 →
    Calls Tryd.prog 62 #[vb, v, .slice Aq q.length cq] w fun e w' => ∃ vb', e = .returned vb' ∧ w'.ownsRow w0.heap.size 5 1 vb' (acc ++ t.text q).length (Lib.byteCells (acc ++ t.text q)) ∧ KeptU w w' ∧ Below w0.heap.size w0 w'
theorem byte_one (c : UInt8) : ∀ u ∈ [Value.int .u8 (c.toNat : Int)], u.oneCell' = true := by
  intro u hu; simp at hu; subst hu; rfl

set_option maxRecDepth 100000 in
set_option maxHeartbeats 4000000 in
theorem rtwo_any (w0 : World) (q : List (List UInt8)) (Aq : Option Addr) (cq m : Nat) (ih : RFmtUpto w0 q Aq cq m) (k p : Int) (n mid : List UInt8) (a a' : Lfc.Raw) (hm : a.size + a'.size ≤ m) (hfa : a.form = true) (hfa' : a'.form = true) (v : Value) (w : World) (acc : List UInt8) (vb : Value) (hv : TreeV w0 (.node k n p [a, a']) v) (hb0 : Below w0.heap.size w0 w) (hown : w.ownsRow w0.heap.size 5 1 vb acc.length (Lib.byteCells acc)) (hl : acc.length + ((a.text q).length + mid.length + (a'.text q).length + 2) ≤ 10000000000) :
    Calls Tryd.prog 79 #[vb, v, .slice Aq q.length cq, S mid] w fun e w' => ∃ vb', e = .returned vb' ∧ w'.ownsRow w0.heap.size 5 1 vb' (acc ++ ([40] ++ a.text q ++ mid ++ a'.text q ++ [41])).length (Lib.byteCells (acc ++ ([40] ++ a.text q ++ mid ++ a'.text q ++ [41]))) ∧ KeptU w w' ∧ Below w0.heap.size w0 w' := by
  obtain ⟨A, c, rfl, hc, hA⟩ := hv.open_
  simp only [List.length_cons, List.length_nil, Nat.zero_add, Nat.reduceAdd] at *
  have IH := Lib.hid ih
  obtain ⟨i0, hi0, hz0, hz1, hz2⟩ := info_parts byteInfo
  obtain ⟨Bk, O, k1, n1, p1, us, B1, c1, rfl, hbB, ht, d0, d1, d2, d3, hcu, hB1, hT⟩ := hA.at_ (i := 0) (by simp)
  obtain ⟨B2', O', k2, n2, p2, ys, B2, c2, hBO, hb', ht', e0, e1, e2, e3, hcu', hB2, hT'⟩ := hA.at_ (i := 1) (by simp)
  simp only [List.getElem_cons_zero, List.getElem_cons_succ, Nat.zero_mul, Nat.one_mul, Nat.add_zero] at hT ht d0 d1 d2 d3 hT' ht' e0 e1 e2 e3
  cases hBO
  clear ht hB1 hA ht' hB2 hb'
  obtain ⟨wa, hwa⟩ : ∃ wa, w.alloc (.cells #[.int .i64 k, S n, .int .i64 p, .slice (some ⟨Bk, O, none⟩) 2 c] 42) = wa := ⟨_, rfl⟩
  have ba : Below w.heap.size w wa := by rw [← hwa]; exact (Below.refl _ _).alloc (Nat.le_refl _) _
  have qa : wa.heap[w.heap.size]? = some (.cells #[.int .i64 k, S n, .int .i64 p, .slice (some ⟨Bk, O, none⟩) 2 c] 42 (0, 0)) := by rw [← hwa]; exact heap_alloc_new _ _
  have H0 : Hid (BS w0 w w.heap.size #[.int .i64 k, S n, .int .i64 p, .slice (some ⟨Bk, O, none⟩) 2 c] acc wa vb) := Lib.hid ⟨own_below hown ba, KeptU.new ba, hb0.trans (ba.mono hb0.size), qa⟩
  have SC := Lib.hid (fun (wx : World) (vx : Value) (ax : List UInt8) (h : BS w0 w w.heap.size #[.int .i64 k, S n, .int .i64 p, .slice (some ⟨Bk, O, none⟩) 2 c] ax wx vx) => show wx.cell? ⟨w.heap.size, 3, none⟩ = some (.slice (some ⟨Bk, O, none⟩) 2 c) ∧ (wx.cell? ⟨Bk, O, none⟩ = some (.int .i64 k1) ∧ wx.cell? ⟨Bk, O + 1, none⟩ = some (S n1) ∧ wx.cell? ⟨Bk, O + 2, none⟩ = some (.int .i64 p1) ∧ wx.cell? ⟨Bk, O + 3, none⟩ = some (.slice B1 us.length c1)) ∧ (wx.cell? ⟨Bk, O + 4, none⟩ = some (.int .i64 k2) ∧ wx.cell? ⟨Bk, O + 4 + 1, none⟩ = some (S n2) ∧ wx.cell? ⟨Bk, O + 4 + 2, none⟩ = some (.int .i64 p2) ∧ wx.cell? ⟨Bk, O + 4 + 3, none⟩ = some (.slice B2 ys.length c2)) from
    ⟨Lib.cell_of_heap h.box 3, ⟨(h.bel.cell (p := ⟨Bk, _, none⟩) hbB).trans d0, (h.bel.cell (p := ⟨Bk, _, none⟩) hbB).trans d1, (h.bel.cell (p := ⟨Bk, _, none⟩) hbB).trans d2, (h.bel.cell (p := ⟨Bk, _, none⟩) hbB).trans d3⟩, ⟨(h.bel.cell (p := ⟨Bk, _, none⟩) hbB).trans e0, (h.bel.cell (p := ⟨Bk, _, none⟩) hbB).trans e1, (h.bel.cell (p := ⟨Bk, _, none⟩) hbB).trans e2, (h.bel.cell (p := ⟨Bk, _, none⟩) hbB).trans e3⟩⟩)
  obtain ⟨Al, cl, rfl⟩ := own_form hown
  have hlm : acc.length + 1 ≤ maxLen := by unfold maxLen; omega
  have hlb : (acc.length + 1) * 1 ≤ 140737488355328 := by omega
  have hsz0 := H0.out.bel.size
  have h1a : a.size ≤ m := by omega
  have h1b : a'.size ≤ m := by omega
  have h4a : (acc ++ [40]).length + (a.text q).length ≤ 10000000000 := by simp only [List.length_append, List.length_singleton]; omega
  have h4b : (acc ++ [40] ++ a.text q ++ mid).length + (a'.text q).length ≤ 10000000000 := by simp only [List.length_append, List.length_singleton]; omega
  clear qa ba hv ih hown hb0 d0 d1 d2 d3 e0 e1 e2 e3
  go_enter Tryd.func79, Tryd.ntmps79
  go_upto_region 1 with fail
  clear hwa
  go_region_held3 (fun w' => w'.cell? ⟨w.heap.size, 3, none⟩ = some (.slice (some ⟨Bk, O, none⟩) 2 c) ∧ (w'.cell? ⟨Bk, O, none⟩ = some (.int .i64 k1) ∧ w'.cell? ⟨Bk, O + 1, none⟩ = some (S n1) ∧ w'.cell? ⟨Bk, O + 2, none⟩ = some (.int .i64 p1) ∧ w'.cell? ⟨Bk, O + 3, none⟩ = some (.slice B1 us.length c1)) ∧ (w'.cell? ⟨Bk, O + 4, none⟩ = some (.int .i64 k2) ∧ w'.cell? ⟨Bk, O + 4 + 1, none⟩ = some (S n2) ∧ w'.cell? ⟨Bk, O + 4 + 2, none⟩ = some (.int .i64 p2) ∧ w'.cell? ⟨Bk, O + 4 + 3, none⟩ = some (.slice B2 ys.length c2)))
    (first | exact SC.out _ _ _ (H0.out.new (Below.refl _ _).drew) | exact SC.out _ _ _ (H0.out.new ((Below.refl _ _).alloc (Nat.le_refl _) _).drew) | exact SC.out _ _ _ H1.out | exact SC.out _ _ _ H2.out)
    (first
      | (go_at_call 62; refine (IH.out a _ _ (acc ++ [40]) _ h1a hfa hT H1.out.bel H1.out.own h4a).mono ?_; rintro e w2 ⟨v2, rfl, hown2, hg2, hb2⟩; have H2 := Lib.hid (H1.out.next hown2 hg2 hb2))
      | (refine step_append_own_at _ (by rfl) _ _ 37 (by rfl) w0.heap.size 5 i0 (.int .u8 0) 1 1 Tryd.underlying37 hi0 hz0 hz1 hz2 rfl (by decide) _ _ _ (by rfl) ((H0.out.own.alloc _).drew) ⟨wa.heap.size, 0, none⟩ 1 1 [.int .u8 40] (by rfl) (by rfl) (fun j u h => cell_one_new wa _ 5 j u h) (byte_one 40) hlm hlb (alloc_le hsz0) ?_; intro v1 w1 hown1 hg1 hloc1; have H1 := Lib.hid ((H0.out.new (((Below.refl _ _).alloc (Nat.le_refl _) _).drew)).push (bs := [40]) hown1 hg1)))
  go_wp2_with fail
  have hlm2 : (acc ++ [40] ++ a.text q).length + (⟨mid.toArray⟩ : ByteArray).size ≤ maxLen := by rw [bsize]; simp only [List.length_append, List.length_singleton]; unfold maxLen; omega
  have hlb2 : (acc ++ [40] ++ a.text q).length + (⟨mid.toArray⟩ : ByteArray).size ≤ 140737488355328 := by rw [bsize]; simp only [List.length_append, List.length_singleton]; omega
  have hsz2 := H2.out.bel.size
  clear hown2 hg2 hb2 hown1 hg1 hloc1
  go_region_held3 (fun w' => w'.cell? ⟨w.heap.size, 3, none⟩ = some (.slice (some ⟨Bk, O, none⟩) 2 c) ∧ (w'.cell? ⟨Bk, O, none⟩ = some (.int .i64 k1) ∧ w'.cell? ⟨Bk, O + 1, none⟩ = some (S n1) ∧ w'.cell? ⟨Bk, O + 2, none⟩ = some (.int .i64 p1) ∧ w'.cell? ⟨Bk, O + 3, none⟩ = some (.slice B1 us.length c1)) ∧ (w'.cell? ⟨Bk, O + 4, none⟩ = some (.int .i64 k2) ∧ w'.cell? ⟨Bk, O + 4 + 1, none⟩ = some (S n2) ∧ w'.cell? ⟨Bk, O + 4 + 2, none⟩ = some (.int .i64 p2) ∧ w'.cell? ⟨Bk, O + 4 + 3, none⟩ = some (.slice B2 ys.length c2)))
    (first | exact SC.out _ _ _ (H2.out.new (Below.refl _ _).drew) | exact SC.out _ _ _ H3.out | exact SC.out _ _ _ H4.out)
    (first
      | (go_at_call 62; refine (IH.out a' _ _ (acc ++ [40] ++ a.text q ++ mid) _ h1b hfa' hT' H3.out.bel H3.out.own h4b).mono ?_; rintro e w4 ⟨v4, rfl, hown4, hg4, hb4⟩; have H4 := Lib.hid (H3.out.next hown4 hg4 hb4))
      | (refine step_append_strB _ (by rfl) _ _ 37 9 (by rfl) w0.heap.size 5 i0 Tryd.underlying37 Tryd.underlying9 hi0 hz0 hz1 hz2 _ _ _ (by rfl) (H2.out.own.drew) ⟨mid.toArray⟩ (by rfl) hlm2 hlb2 hsz2 ?_; intro v3 w3 hown3 hg3; have H3 := Lib.hid ((H2.out.new (Below.refl _ _).drew).pushS hown3 hg3)))
  clear hown4 hg4 hb4 hown3 hg3
  have hlm4 : (acc ++ [40] ++ a.text q ++ mid ++ a'.text q).length + 1 ≤ maxLen := by simp only [List.length_append, List.length_singleton]; unfold maxLen; omega
  have hlb4 : ((acc ++ [40] ++ a.text q ++ mid ++ a'.text q).length + 1) * 1 ≤ 140737488355328 := by simp only [List.length_append, List.length_singleton]; omega
  have hsz4 := H4.out.bel.size
  obtain ⟨Z, hZ⟩ : ∃ Z, acc ++ [40] ++ a.text q ++ mid ++ a'.text q = Z := ⟨_, rfl⟩
  rw [hZ] at H4 hlm4 hlb4
  have HZ := Lib.hid hZ
  clear hZ
  go_wp2_with (at_builtin; refine wpList_append_own_at _ rfl _ _ 37 rfl w0.heap.size 5 i0 (.int .u8 0) 1 1 Tryd.underlying37 hi0 hz0 hz1 hz2 rfl (by decide) _ _ _ rfl (H4.out.own.alloc _) ⟨w4.heap.size, 0, none⟩ 1 1 [.int .u8 41] rfl rfl (cell_one_new _ _ _) (byte_one 41) hlm4 hlb4 (alloc_le hsz4) ?_)
  intro v5 w5 hown5 hg5 _ _
  have H5 := Lib.hid ((H4.out.new ((Below.refl _ _).alloc (Nat.le_refl _) _)).push (bs := [41]) hown5 hg5)
  clear hown5 hg5
  go_wp2_with fail
  go_ret
  refine ⟨_, rfl, ?_, H5.out.kept, H5.out.bel⟩
  have := H5.out.own
  rw [← HZ.out] at this
  simpa [List.append_assoc] using this
end Go.Proofs.YtmdhkcefbkdkbaaDoor
