/- Parts of the proof: RawRFree, RawRFree2, RawRFree3, RawRFree4, RawRFmt, RawRFmt2, RawRFmt3, RawRFmt4. -/
import Derived.Test.YtkhfnkokdmoipaaDoorRawMade
import Derived.Test.YtkhfnkokdmoipaaDoorRawSpoil
/- The contract of the reference's free. -/
set_option linter.unusedVariables false
set_option linter.unusedSimpArgs false
namespace Go.Proofs.YtkhfnkokdmoipaaDoor
open Go.RowKit Go.Maps Go.WideMaps

/-- A row grows; its value turns from v to v'. -/
def GB (w : World) (v : Value) (w' : World) (v' : Value) : Prop := w.grownBy w' v.ownBlock ∧ (v'.ownBlock = v.ownBlock ∨ ∃ g, v'.ownBlock = some g ∧ w.heap.size ≤ g)
theorem GB.refl (w : World) (v : Value) : GB w v w v := ⟨⟨rfl, rfl, rfl, Nat.le_refl _, fun _ _ _ => rfl⟩, .inl rfl⟩
theorem GB.trans {w w1 w2 : World} {v v1 v2 : Value} (h : GB w v w1 v1) (h' : GB w1 v1 w2 v2) : GB w v w2 v2 := by
  refine ⟨⟨h'.1.os.trans h.1.os, h'.1.tape.trans h.1.tape, h'.1.output.trans h.1.output, Nat.le_trans h.1.size h'.1.size, fun k hk hn => ?_⟩, ?_⟩
  · refine (h'.1.block k (Nat.lt_of_lt_of_le hk h.1.size) (fun e => ?_)).trans (h.1.block k hk hn)
    rcases h.2 with h2 | ⟨g, h2, h3⟩
    · exact hn (e.trans h2)
    · have := Option.some.inj (e.trans h2); omega
  · rcases h'.2 with h2 | ⟨g, h2, h3⟩
    · rcases h.2 with h4 | ⟨g, h4, h5⟩
      · exact .inl (h2.trans h4)
      · exact .inr ⟨g, h2.trans h4, h5⟩
    · exact .inr ⟨g, h2, Nat.le_trans h.1.size h3⟩
theorem GB.new {w w1 : World} {v : Value} (h : Below w.heap.size w w1) : GB w v w1 v := ⟨only_of_below h _, .inl rfl⟩
theorem GB.heap {w w1 : World} {v v1 : Value} (h : GB w v w1 v1) {k : Nat} {o : Obj} (hk : w.heap[k]? = some o) (hn : v.ownBlock ≠ some k) : w1.heap[k]? = some o :=
  (h.1.block k (lt_of_block hk) (fun e => hn e.symm)).trans hk
/-- A slice of names whose block is not the row's. -/
def NamesB (w : World) (v : Value) (A : Option Addr) (l : List (List UInt8)) : Prop := 0 < l.length → ∃ b o, A = some ⟨b, o, none⟩ ∧ b < w.heap.size ∧ v.ownBlock ≠ some b ∧ ∀ k (h : k < l.length), w.cell? ⟨b, o + k, none⟩ = some (S l[k])
theorem NamesB.toAt {w : World} {v : Value} {A : Option Addr} {l : List (List UInt8)} (h : NamesB w v A l) : NamesAt w A l := fun hne => by
  obtain ⟨b, o, hA, hlt, _, hc⟩ := h hne
  exact ⟨b, o, hA, hlt, hc⟩
theorem NamesB.gb {w w' : World} {v v' : Value} {A : Option Addr} {l : List (List UInt8)} (h : NamesB w v A l) (hg : GB w v w' v') : NamesB w' v' A l := fun hne => by
  obtain ⟨b, o, hA, hlt, hn, hc⟩ := h hne
  refine ⟨b, o, hA, Nat.lt_of_lt_of_le hlt hg.1.size, fun e => ?_, fun k hk => (World.cell?_of_block (a := ⟨b, o + k, none⟩) (hg.1.block b hlt (fun e => hn e.symm))).trans (hc k hk)⟩
  rcases hg.2 with h2 | ⟨g, h2, h3⟩
  · exact hn (h2.symm.trans e)
  · have := Option.some.inj (h2.symm.trans e); omega
/-- The reference's binders leave the hole's name out. -/
def RelB (B' B : List (List UInt8)) : Prop := ∀ n, n ≠ [95] → (n ∈ B' ↔ n ∈ B)
theorem name_hole {n : List UInt8} (h : Lfc.isName n = true) : n ≠ [95] := fun e => by rw [e] at h; revert h; decide

theorem own_namesR {w : World} {base c : Nat} {A : Option Addr} {l : List (List UInt8)} (h : w.ownsRow base 9 1 (.slice A l.length c) l.length (nameCells l)) : NamesAt w A l := fun hne => by
  rcases h.2 with ⟨_, h0⟩ | ⟨g, cap, cur, hv, hbg, hg, _, _, _, _⟩
  · omega
  · injection hv with e1 _ e3
    subst e1 e3
    refine ⟨g, 0, rfl, lt_of_block hg, fun k hk => ?_⟩
    rw [Nat.zero_add, h.cellAt k (by omega)]
    simp [nameCells, hk]
/-- A name is put behind the row. -/
theorem gb_push {w0 w wa w2 : World} {vl v' : Value} {out : List (List UInt8)} {n : List UInt8} (hb0 : Below w0.heap.size w0 w) (hba : Below w.heap.size w wa) (hown : wa.ownsRow w0.heap.size 9 1 vl out.length (nameCells out)) (hlt : ∀ g, vl.ownBlock = some g → g < w.heap.size)
    (hown2 : w2.ownsRow w0.heap.size 9 1 v' (out.length + 1) (nameCells out ++ [S n])) (hg2 : (wa.alloc (.cells #[S n] 9)).grownBy w2 vl.ownBlock) (hloc : v'.ownBlock = vl.ownBlock ∨ v'.ownBlock = some (wa.heap.size + 1)) :
    w2.ownsRow w0.heap.size 9 1 v' (out ++ [n]).length (nameCells (out ++ [n])) ∧ GB w vl w2 v' ∧ Below w0.heap.size w0 w2 := by
  have s1 := hba.size
  have e : nameCells (out ++ [n]) = nameCells out ++ [S n] := by simp [nameCells]
  have hba2 : Below w.heap.size w (wa.alloc (.cells #[S n] 9)) := hba.alloc s1 _
  refine ⟨by rw [e, List.length_append]; exact hown2, (GB.new hba2).trans ⟨hg2, ?_⟩, (hb0.trans (hba2.mono hb0.size)).grown hg2 (alloc_le (Nat.le_trans hb0.size s1)) (own_block_ge hown)⟩
  rcases hloc with h | h
  · exact .inl h
  · exact .inr ⟨_, h, by simp⟩

end Go.Proofs.YtkhfnkokdmoipaaDoor

/- The contract of the reference's free: the other kinds; Free. -/
set_option linter.unusedVariables false
set_option linter.unusedSimpArgs false
namespace Go.Proofs.YtkhfnkokdmoipaaDoor
open Go.RowKit Go.Maps Go.WideMaps

/-- A frame of free. -/
structure RS (w0 : World) (w : World) (vl : Value) (R : Nat) (box : Array Value) (B' : List (List UInt8)) (Ab : Option Addr) (out : List (List UInt8)) (wr : World) (vr : Value) : Prop where
  own : wr.ownsRow w0.heap.size 9 1 vr out.length (nameCells out)
  gb : GB w vl wr vr
  bel : Below w0.heap.size w0 wr
  box : wr.heap[R]? = some (.cells box 39 (0, 0))
  boxn : vr.ownBlock ≠ some R
  names : NamesB wr vr Ab B'
theorem RS.next {w0 w wr w2 : World} {vl vr v2 : Value} {R : Nat} {box : Array Value} {B' : List (List UInt8)} {Ab : Option Addr} {out out' : List (List UInt8)} (h : RS w0 w vl R box B' Ab out wr vr) (hown : w2.ownsRow w0.heap.size 9 1 v2 out'.length (nameCells out')) (hg : GB wr vr w2 v2) (hb : Below w0.heap.size w0 w2) : RS w0 w vl R box B' Ab out' w2 v2 := by
  refine ⟨hown, h.gb.trans hg, hb, hg.heap h.box h.boxn, fun e => ?_, h.names.gb hg⟩
  have := lt_of_block h.box
  rcases hg.2 with h2 | ⟨g, h2, h3⟩
  · exact h.boxn (h2.symm.trans e)
  · have := Option.some.inj (h2.symm.trans e); omega

end Go.Proofs.YtkhfnkokdmoipaaDoor

/- The contract of the reference's free: the binders; Free. -/
set_option linter.unusedVariables false
set_option linter.unusedSimpArgs false
namespace Go.Proofs.YtkhfnkokdmoipaaDoor
open Go.RowKit Go.Maps Go.WideMaps

theorem names_cells {w : World} {b o : Nat} {l : List (List UInt8)} (h : ∀ k (hk : k < l.length), w.cell? ⟨b, o + k, none⟩ = some (S l[k])) : CellsAt w b o (nameCells l) := by
  intro j u hj
  simp only [nameCells, List.getElem?_map] at hj
  cases e : l[j]? with
  | none => rw [e] at hj; cases hj
  | some x =>
    rw [e] at hj
    simp only [Option.map_some, Option.some.injEq] at hj
    subst hj
    obtain ⟨hl, hx⟩ := List.getElem?_eq_some_iff.1 e
    rw [← hx]; exact h j hl
theorem cellsAdd2 {w : World} {b o : Nat} {xs : List Value} (h : CellsAt w b o xs) : ∀ j u, xs[j]? = some u → w.cell? ((⟨b, o, none⟩ : Addr).add j) = some u := fun j u hj => by
  rw [Go.WideShapes.add_plain]; exact h j u hj
theorem names_ones {l : List (List UInt8)} : ∀ u ∈ nameCells l, u.oneCell' = true := by
  intro u hu
  simp only [nameCells, List.mem_map] at hu
  obtain ⟨n, _, rfl⟩ := hu
  rfl
theorem inner_names {w wr : World} {vr : Value} {A : Option Addr} {c : Nat} {l : List (List UInt8)} (h : w.ownsRow wr.heap.size 9 1 (.slice A l.length c) l.length (nameCells l)) (hv : ∀ g, vr.ownBlock = some g → g < wr.heap.size) : NamesB w vr A l := fun hne => by
  rcases h.2 with ⟨_, h0⟩ | ⟨g, cap, cur, hv', hbg, hg, _, _, _, _⟩
  · omega
  · injection hv' with e1 _ e3
    subst e1 e3
    refine ⟨g, 0, rfl, lt_of_block hg, fun e => by have := hv g e; omega, fun k hk => ?_⟩
    rw [Nat.zero_add, h.cellAt k (by omega)]
    simp [nameCells, hk]
theorem relB_hole {B' B : List (List UInt8)} {n : List UInt8} (h : RelB B' B) (hn : n = [95]) : RelB B' (B ++ [n]) := fun x hx => by
  rw [h x hx]; simp [hn, hx]
theorem relB_name {B' B : List (List UInt8)} (h : RelB B' B) (n : List UInt8) : RelB (B' ++ [n]) (B ++ [n]) := fun x hx => by
  simp [h x hx]

end Go.Proofs.YtkhfnkokdmoipaaDoor

/- The contract of the reference's Free. -/
set_option linter.unusedVariables false
set_option linter.unusedSimpArgs false
namespace Go.Proofs.YtkhfnkokdmoipaaDoor
open Go.RowKit Go.Maps Go.WideMaps

end Go.Proofs.YtkhfnkokdmoipaaDoor

/- Contracts of the reference's two and format. -/
set_option linter.unusedVariables false
set_option linter.unusedSimpArgs false
namespace Go.Proofs.YtkhfnkokdmoipaaDoor
open Go.RowKit Go.Maps Go.WideMaps

section
variable {P : Program} (w : World)
theorem step_append_strB {ops : Array Oper} {o : Oper} {a : Act} {K : Act → World → Prop} {Q : Exit → Act → World → Prop} {E : Prop} (hgd : o.guard = none) (sl x : Operand) (t u : TypeId)
    (ho : o.op = .call { callee := .builtin .append, args := #[sl, x], argTypes := #[t, u] })
    (base : Nat) (e : TypeId) (i : TypeInfo) (ht : P.underlying t = some (.slice e)) (hu : P.underlying u = some .string) (hi : P.info? e = some i) (hz : i.zero = some (.int .u8 0))
    (hsize : i.size = 1) (hby : i.bytes = 1)
    (v : Value) (n : Nat) (xs : List Value) (hs : a.eval sl = v) (hown : w.ownsRow base e 1 v n xs) (s : ByteArray) (hx : a.eval x = .string s)
    (h63 : n + s.size ≤ maxLen) (hbytes : n + s.size ≤ 140737488355328) (hbase : base ≤ w.heap.size)
    (h : ∀ v' w', w'.ownsRow base e 1 v' (n + s.size) (xs ++ Lib.strCells s) → w.grownBy w' v.ownBlock → K (a.put o.dst v') w') :
    if Region.wanted o (yielded ops a.tmps) = true then Oper.wp P o a w K Q else E := by
  have hw : Region.wanted o (yielded ops a.tmps) = true := by simp [Region.wanted, hgd]
  rw [if_pos hw]
  obtain ⟨v', w', hr, h2, h3, _⟩ := Lib.run_append_own_string (P := P) w base t u o.type e i ht hu hi hz hsize hby v n xs hown s h63 hbytes hbase
  unfold Oper.wp execOp
  simp only [ho, resolve, invoke, builtin, Sem.run_bind, Sem.run_pure, Result.andThen_ok, List.map_toArray, List.map_cons, List.map_nil, hs, hx, hr]
  exact h v' w' h2 h3
end

/-- Blocks of other types than bytes stand. -/
def KeptU (w w' : World) : Prop := ∀ (k : Nat) (c : Array Value) (t : TypeId), w.heap[k]? = some (.cells c t (0, 0)) → t ≠ 5 → w'.heap[k]? = some (.cells c t (0, 0))
theorem KeptU.trans {w w' w'' : World} (h : KeptU w w') (h' : KeptU w' w'') : KeptU w w'' := fun k c t hk h1 => h' k c t (h k c t hk h1) h1
theorem KeptU.new {w w' : World} (h : Below w.heap.size w w') : KeptU w w' := fun k _ _ hk _ => (h.block k (lt_of_block hk)).trans hk
theorem KeptU.grown {w w' : World} {base n : Nat} {v : Value} {xs : List Value} (hown : w.ownsRow base 5 1 v n xs) (hg : w.grownBy w' v.ownBlock) : KeptU w w' := fun k c t hk h1 =>
  (hg.block k (lt_of_block hk) (fun e => Lib.ownBlock_ne hown hk h1 e.symm)).trans hk
/-- A frame of format: the row of bytes, the tree's box. -/
structure BS (w0 : World) (w : World) (R : Nat) (box : Array Value) (acc : List UInt8) (wr : World) (vr : Value) : Prop where
  own : wr.ownsRow w0.heap.size 5 1 vr acc.length (Lib.byteCells acc)
  kept : KeptU w wr
  bel : Below w0.heap.size w0 wr
  box : wr.heap[R]? = some (.cells box 39 (0, 0))
theorem BS.next {w0 w wr w2 : World} {vr v2 : Value} {R : Nat} {box : Array Value} {acc acc' : List UInt8} (h : BS w0 w R box acc wr vr) (hown : w2.ownsRow w0.heap.size 5 1 v2 acc'.length (Lib.byteCells acc')) (hg : KeptU wr w2) (hb : Below w0.heap.size w0 w2) : BS w0 w R box acc' w2 v2 :=
  ⟨hown, h.kept.trans hg, hb, hg _ _ _ h.box (by decide)⟩
theorem BS.new {w0 w wr w2 : World} {vr : Value} {R : Nat} {box : Array Value} {acc : List UInt8} (h : BS w0 w R box acc wr vr) (hb : Below wr.heap.size wr w2) : BS w0 w R box acc w2 vr :=
  h.next (own_below h.own hb) (KeptU.new hb) (h.bel.trans (hb.mono h.bel.size))
/-- Bytes are put behind the row. -/
theorem BS.push {w0 w wr w2 : World} {vr v' : Value} {R : Nat} {box : Array Value} {acc bs : List UInt8} (h : BS w0 w R box acc wr vr) (hown2 : w2.ownsRow w0.heap.size 5 1 v' (acc.length + bs.length) (Lib.byteCells acc ++ Lib.byteCells bs)) (hg2 : wr.grownBy w2 vr.ownBlock) : BS w0 w R box (acc ++ bs) w2 v' := by
  have e : Lib.byteCells (acc ++ bs) = Lib.byteCells acc ++ Lib.byteCells bs := by simp [Lib.byteCells]
  exact h.next (by rw [e, List.length_append]; exact hown2) (KeptU.grown h.own hg2) (h.bel.grown hg2 h.bel.size (own_block_ge h.own))
theorem BS.pushS {w0 w wr w2 : World} {vr v' : Value} {R : Nat} {box : Array Value} {acc bs : List UInt8} (h : BS w0 w R box acc wr vr) (hown2 : w2.ownsRow w0.heap.size 5 1 v' (acc.length + (⟨bs.toArray⟩ : ByteArray).size) (Lib.byteCells acc ++ Lib.strCells ⟨bs.toArray⟩)) (hg2 : wr.grownBy w2 vr.ownBlock) : BS w0 w R box (acc ++ bs) w2 v' := by
  rw [bsize] at hown2
  exact h.push (by simpa [Lib.strCells, Lib.byteCells] using hown2) hg2
def RFmtUpto (w0 : World) (q : List (List UInt8)) (Aq : Option Addr) (cq : Nat) (m : Nat) : Prop := ∀ (t : Lfc.Raw) (v : Value) (w : World) (acc : List UInt8) (vb : Value), t.size ≤ m → t.form = true → TreeV w0 t v → Below w0.heap.size w0 w → w.ownsRow w0.heap.size 5 1 vb acc.length (Lib.byteCells acc) → acc.length + (t.text q).length ≤ 10000000000 →
    Calls Tryd.prog 39 #[vb, v, .slice Aq q.length cq] w fun e w' => ∃ vb', e = .returned vb' ∧ w'.ownsRow w0.heap.size 5 1 vb' (acc ++ t.text q).length (Lib.byteCells (acc ++ t.text q)) ∧ KeptU w w' ∧ Below w0.heap.size w0 w'
theorem byte_one (c : UInt8) : ∀ u ∈ [Value.int .u8 (c.toNat : Int)], u.oneCell' = true := by
  intro u hu; simp at hu; subst hu; rfl

set_option maxRecDepth 100000 in
set_option maxHeartbeats 4000000 in
theorem rtwo_any (w0 : World) (q : List (List UInt8)) (Aq : Option Addr) (cq m : Nat) (ih : RFmtUpto w0 q Aq cq m) (k p : Int) (n mid : List UInt8) (a a' : Lfc.Raw) (hm : a.size + a'.size ≤ m) (hfa : a.form = true) (hfa' : a'.form = true) (v : Value) (w : World) (acc : List UInt8) (vb : Value) (hv : TreeV w0 (.node k n p [a, a']) v) (hb0 : Below w0.heap.size w0 w) (hown : w.ownsRow w0.heap.size 5 1 vb acc.length (Lib.byteCells acc)) (hl : acc.length + ((a.text q).length + mid.length + (a'.text q).length + 2) ≤ 10000000000) :
    Calls Tryd.prog 59 #[vb, v, .slice Aq q.length cq, S mid] w fun e w' => ∃ vb', e = .returned vb' ∧ w'.ownsRow w0.heap.size 5 1 vb' (acc ++ ([40] ++ a.text q ++ mid ++ a'.text q ++ [41])).length (Lib.byteCells (acc ++ ([40] ++ a.text q ++ mid ++ a'.text q ++ [41]))) ∧ KeptU w w' ∧ Below w0.heap.size w0 w' := by
  obtain ⟨A, c, rfl, hc, hA⟩ := hv.open_
  simp only [List.length_cons, List.length_nil, Nat.zero_add, Nat.reduceAdd] at *
  have IH := Lib.hid ih
  obtain ⟨i0, hi0, hz0, hz1, hz2⟩ := info_parts byteInfo
  obtain ⟨Bk, O, k1, n1, p1, us, B1, c1, rfl, hbB, ht, d0, d1, d2, d3, hcu, hB1, hT⟩ := hA.at_ (i := 0) (by simp)
  obtain ⟨B2', O', k2, n2, p2, ys, B2, c2, hBO, hb', ht', e0, e1, e2, e3, hcu', hB2, hT'⟩ := hA.at_ (i := 1) (by simp)
  simp only [List.getElem_cons_zero, List.getElem_cons_succ, Nat.zero_mul, Nat.one_mul, Nat.add_zero] at hT ht d0 d1 d2 d3 hT' ht' e0 e1 e2 e3
  cases hBO
  clear ht hB1 hA ht' hB2 hb'
  obtain ⟨wa, hwa⟩ : ∃ wa, w.alloc (.cells #[.int .i64 k, S n, .int .i64 p, .slice (some ⟨Bk, O, none⟩) 2 c] 39) = wa := ⟨_, rfl⟩
  have ba : Below w.heap.size w wa := by rw [← hwa]; exact (Below.refl _ _).alloc (Nat.le_refl _) _
  have qa : wa.heap[w.heap.size]? = some (.cells #[.int .i64 k, S n, .int .i64 p, .slice (some ⟨Bk, O, none⟩) 2 c] 39 (0, 0)) := by rw [← hwa]; exact heap_alloc_new _ _
  have H0 : Hid (BS w0 w w.heap.size #[.int .i64 k, S n, .int .i64 p, .slice (some ⟨Bk, O, none⟩) 2 c] acc wa vb) := Lib.hid ⟨own_below hown ba, KeptU.new ba, hb0.trans (ba.mono hb0.size), qa⟩
  have SC := Lib.hid (fun (wx : World) (vx : Value) (ax : List UInt8) (h : BS w0 w w.heap.size #[.int .i64 k, S n, .int .i64 p, .slice (some ⟨Bk, O, none⟩) 2 c] ax wx vx) => show wx.cell? ⟨w.heap.size, 3, none⟩ = some (.slice (some ⟨Bk, O, none⟩) 2 c) ∧ (wx.cell? ⟨Bk, O, none⟩ = some (.int .i64 k1) ∧ wx.cell? ⟨Bk, O + 1, none⟩ = some (S n1) ∧ wx.cell? ⟨Bk, O + 2, none⟩ = some (.int .i64 p1) ∧ wx.cell? ⟨Bk, O + 3, none⟩ = some (.slice B1 us.length c1)) ∧ (wx.cell? ⟨Bk, O + 4, none⟩ = some (.int .i64 k2) ∧ wx.cell? ⟨Bk, O + 4 + 1, none⟩ = some (S n2) ∧ wx.cell? ⟨Bk, O + 4 + 2, none⟩ = some (.int .i64 p2) ∧ wx.cell? ⟨Bk, O + 4 + 3, none⟩ = some (.slice B2 ys.length c2)) from
    ⟨Lib.cell_of_heap h.box 3, ⟨(h.bel.cell (p := ⟨Bk, _, none⟩) hbB).trans d0, (h.bel.cell (p := ⟨Bk, _, none⟩) hbB).trans d1, (h.bel.cell (p := ⟨Bk, _, none⟩) hbB).trans d2, (h.bel.cell (p := ⟨Bk, _, none⟩) hbB).trans d3⟩, ⟨(h.bel.cell (p := ⟨Bk, _, none⟩) hbB).trans e0, (h.bel.cell (p := ⟨Bk, _, none⟩) hbB).trans e1, (h.bel.cell (p := ⟨Bk, _, none⟩) hbB).trans e2, (h.bel.cell (p := ⟨Bk, _, none⟩) hbB).trans e3⟩⟩)
  obtain ⟨Al, cl, rfl⟩ := own_form hown
  have hlm : acc.length + 1 ≤ maxLen := by unfold maxLen; omega
  have hlb : (acc.length + 1) * 1 ≤ 140737488355328 := by omega
  have hsz0 := H0.out.bel.size
  have h1a : a.size ≤ m := by omega
  have h1b : a'.size ≤ m := by omega
  have h4a : (acc ++ [40]).length + (a.text q).length ≤ 10000000000 := by simp only [List.length_append, List.length_singleton]; omega
  have h4b : (acc ++ [40] ++ a.text q ++ mid).length + (a'.text q).length ≤ 10000000000 := by simp only [List.length_append, List.length_singleton]; omega
  clear qa ba hv ih hown hb0 d0 d1 d2 d3 e0 e1 e2 e3
  go_enter Tryd.func59, Tryd.ntmps59
  go_upto_region 1 with fail
  clear hwa
  go_region_held3 (fun w' => w'.cell? ⟨w.heap.size, 3, none⟩ = some (.slice (some ⟨Bk, O, none⟩) 2 c) ∧ (w'.cell? ⟨Bk, O, none⟩ = some (.int .i64 k1) ∧ w'.cell? ⟨Bk, O + 1, none⟩ = some (S n1) ∧ w'.cell? ⟨Bk, O + 2, none⟩ = some (.int .i64 p1) ∧ w'.cell? ⟨Bk, O + 3, none⟩ = some (.slice B1 us.length c1)) ∧ (w'.cell? ⟨Bk, O + 4, none⟩ = some (.int .i64 k2) ∧ w'.cell? ⟨Bk, O + 4 + 1, none⟩ = some (S n2) ∧ w'.cell? ⟨Bk, O + 4 + 2, none⟩ = some (.int .i64 p2) ∧ w'.cell? ⟨Bk, O + 4 + 3, none⟩ = some (.slice B2 ys.length c2)))
    (first | exact SC.out _ _ _ (H0.out.new (Below.refl _ _).drew) | exact SC.out _ _ _ (H0.out.new ((Below.refl _ _).alloc (Nat.le_refl _) _).drew) | exact SC.out _ _ _ H1.out | exact SC.out _ _ _ H2.out)
    (first
      | (go_at_call 39; refine (IH.out a _ _ (acc ++ [40]) _ h1a hfa hT H1.out.bel H1.out.own h4a).mono ?_; rintro e w2 ⟨v2, rfl, hown2, hg2, hb2⟩; have H2 := Lib.hid (H1.out.next hown2 hg2 hb2))
      | (refine step_append_own_at _ (by rfl) _ _ 74 (by rfl) w0.heap.size 5 i0 (.int .u8 0) 1 1 Tryd.underlying74 hi0 hz0 hz1 hz2 rfl (by decide) _ _ _ (by rfl) ((H0.out.own.alloc _).drew) ⟨wa.heap.size, 0, none⟩ 1 1 [.int .u8 40] (by rfl) (by rfl) (fun j u h => cell_one_new wa _ 5 j u h) (byte_one 40) hlm hlb (alloc_le hsz0) ?_; intro v1 w1 hown1 hg1 hloc1; have H1 := Lib.hid ((H0.out.new (((Below.refl _ _).alloc (Nat.le_refl _) _).drew)).push (bs := [40]) hown1 hg1)))
  go_wp2_with fail
  have hlm2 : (acc ++ [40] ++ a.text q).length + (⟨mid.toArray⟩ : ByteArray).size ≤ maxLen := by rw [bsize]; simp only [List.length_append, List.length_singleton]; unfold maxLen; omega
  have hlb2 : (acc ++ [40] ++ a.text q).length + (⟨mid.toArray⟩ : ByteArray).size ≤ 140737488355328 := by rw [bsize]; simp only [List.length_append, List.length_singleton]; omega
  have hsz2 := H2.out.bel.size
  clear hown2 hg2 hb2 hown1 hg1 hloc1
  go_region_held3 (fun w' => w'.cell? ⟨w.heap.size, 3, none⟩ = some (.slice (some ⟨Bk, O, none⟩) 2 c) ∧ (w'.cell? ⟨Bk, O, none⟩ = some (.int .i64 k1) ∧ w'.cell? ⟨Bk, O + 1, none⟩ = some (S n1) ∧ w'.cell? ⟨Bk, O + 2, none⟩ = some (.int .i64 p1) ∧ w'.cell? ⟨Bk, O + 3, none⟩ = some (.slice B1 us.length c1)) ∧ (w'.cell? ⟨Bk, O + 4, none⟩ = some (.int .i64 k2) ∧ w'.cell? ⟨Bk, O + 4 + 1, none⟩ = some (S n2) ∧ w'.cell? ⟨Bk, O + 4 + 2, none⟩ = some (.int .i64 p2) ∧ w'.cell? ⟨Bk, O + 4 + 3, none⟩ = some (.slice B2 ys.length c2)))
    (first | exact SC.out _ _ _ (H2.out.new (Below.refl _ _).drew) | exact SC.out _ _ _ H3.out | exact SC.out _ _ _ H4.out)
    (first
      | (go_at_call 39; refine (IH.out a' _ _ (acc ++ [40] ++ a.text q ++ mid) _ h1b hfa' hT' H3.out.bel H3.out.own h4b).mono ?_; rintro e w4 ⟨v4, rfl, hown4, hg4, hb4⟩; have H4 := Lib.hid (H3.out.next hown4 hg4 hb4))
      | (refine step_append_strB _ (by rfl) _ _ 74 9 (by rfl) w0.heap.size 5 i0 Tryd.underlying74 Tryd.underlying9 hi0 hz0 hz1 hz2 _ _ _ (by rfl) (H2.out.own.drew) ⟨mid.toArray⟩ (by rfl) hlm2 hlb2 hsz2 ?_; intro v3 w3 hown3 hg3; have H3 := Lib.hid ((H2.out.new (Below.refl _ _).drew).pushS hown3 hg3)))
  clear hown4 hg4 hb4 hown3 hg3
  have hlm4 : (acc ++ [40] ++ a.text q ++ mid ++ a'.text q).length + 1 ≤ maxLen := by simp only [List.length_append, List.length_singleton]; unfold maxLen; omega
  have hlb4 : ((acc ++ [40] ++ a.text q ++ mid ++ a'.text q).length + 1) * 1 ≤ 140737488355328 := by simp only [List.length_append, List.length_singleton]; omega
  have hsz4 := H4.out.bel.size
  obtain ⟨Z, hZ⟩ : ∃ Z, acc ++ [40] ++ a.text q ++ mid ++ a'.text q = Z := ⟨_, rfl⟩
  rw [hZ] at H4 hlm4 hlb4
  have HZ := Lib.hid hZ
  clear hZ
  go_wp2_with (at_builtin; refine wpList_append_own_at _ rfl _ _ 74 rfl w0.heap.size 5 i0 (.int .u8 0) 1 1 Tryd.underlying74 hi0 hz0 hz1 hz2 rfl (by decide) _ _ _ rfl (H4.out.own.alloc _) ⟨w4.heap.size, 0, none⟩ 1 1 [.int .u8 41] rfl rfl (cell_one_new _ _ _) (byte_one 41) hlm4 hlb4 (alloc_le hsz4) ?_)
  intro v5 w5 hown5 hg5 _ _
  have H5 := Lib.hid ((H4.out.new ((Below.refl _ _).alloc (Nat.le_refl _) _)).push (bs := [41]) hown5 hg5)
  clear hown5 hg5
  go_wp2_with fail
  go_ret
  refine ⟨_, rfl, ?_, H5.out.kept, H5.out.bel⟩
  have := H5.out.own
  rw [← HZ.out] at this
  simpa [List.append_assoc] using this
end Go.Proofs.YtkhfnkokdmoipaaDoor

/- The contract of the reference's format: kinds without a binder (a quoted name: see RawRFmt3). -/
set_option linter.unusedVariables false
set_option linter.unusedSimpArgs false
namespace Go.Proofs.YtkhfnkokdmoipaaDoor
open Go.RowKit Go.Maps Go.WideMaps

set_option maxRecDepth 100000 in
set_option maxHeartbeats 4000000 in
theorem rfmt_two (w0 : World) (q : List (List UInt8)) (Aq : Option Addr) (cq m : Nat) (ih : RFmtUpto w0 q Aq cq m) (k p : Int) (n : List UInt8) (hk : k = 5 ∨ k = 6 ∨ k = 9) (a a' : Lfc.Raw) (hm : a.size + a'.size ≤ m) (hfa : a.form = true) (hfa' : a'.form = true) (v : Value) (w : World) (acc : List UInt8) (vb : Value) (hv : TreeV w0 (.node k n p [a, a']) v) (hb0 : Below w0.heap.size w0 w) (hown : w.ownsRow w0.heap.size 5 1 vb acc.length (Lib.byteCells acc)) (hl : acc.length + ((Lfc.Raw.node k n p [a, a']).text q).length ≤ 10000000000) :
    Calls Tryd.prog 39 #[vb, v, .slice Aq q.length cq] w fun e w' => ∃ vb', e = .returned vb' ∧ w'.ownsRow w0.heap.size 5 1 vb' (acc ++ (Lfc.Raw.node k n p [a, a']).text q).length (Lib.byteCells (acc ++ (Lfc.Raw.node k n p [a, a']).text q)) ∧ KeptU w w' ∧ Below w0.heap.size w0 w' := by
  obtain ⟨mid, hmid, htx⟩ : ∃ mid : List UInt8, ((k = 5 ∧ mid = [32]) ∨ (k = 6 ∧ mid = [32, 45, 62, 32]) ∨ (k = 9 ∧ mid = [32, 58, 32])) ∧ (Lfc.Raw.node k n p [a, a']).text q = [40] ++ a.text q ++ mid ++ a'.text q ++ [41] := by
    rcases hk with rfl | rfl | rfl
    · exact ⟨_, .inl ⟨rfl, rfl⟩, by simp [Lfc.Raw.text, Lfc.Raw.texts, Lfc.putText, Lfc.twoText]⟩
    · exact ⟨_, .inr (.inl ⟨rfl, rfl⟩), by simp [Lfc.Raw.text, Lfc.Raw.texts, Lfc.putText, Lfc.twoText]⟩
    · exact ⟨_, .inr (.inr ⟨rfl, rfl⟩), by simp [Lfc.Raw.text, Lfc.Raw.texts, Lfc.putText, Lfc.twoText]⟩
  rw [htx] at hl ⊢
  simp only [List.length_append, List.length_singleton] at hl
  obtain ⟨wa, hwa⟩ : ∃ wa : World, wa = wa ∧ True := ⟨w, rfl, trivial⟩
  clear hwa wa
  have hv' := hv
  obtain ⟨A, c, rfl, hc, hA⟩ := hv.open_
  obtain ⟨wa, hwa⟩ : ∃ wa, w.alloc (.cells #[.int .i64 k, S n, .int .i64 p, .slice A 2 c] 39) = wa := ⟨_, rfl⟩
  have ba : Below w.heap.size w wa := by rw [← hwa]; exact (Below.refl _ _).alloc (Nat.le_refl _) _
  have qa : wa.heap[w.heap.size]? = some (.cells #[.int .i64 k, S n, .int .i64 p, .slice A 2 c] 39 (0, 0)) := by rw [← hwa]; exact heap_alloc_new _ _
  obtain ⟨x0, x1, x2, x3⟩ := cells4 qa
  have HT := Lib.hid (rtwo_any w0 q Aq cq m ih k p n mid a a' hm hfa hfa' _ wa acc vb hv' (hb0.trans (ba.mono hb0.size)) (own_below hown ba) (by omega))
  have HB := Lib.hid ba
  simp only [List.length_cons, List.length_nil, Nat.zero_add, Nat.reduceAdd] at *
  clear hv hv' hA ih hown hb0 htx qa ba hk
  rcases hmid with ⟨rfl, rfl⟩ | ⟨rfl, rfl⟩ | ⟨rfl, rfl⟩
  all_goals
    go_enter Tryd.func39, Tryd.ntmps39
    go_upto_region 1 with fail
    clear hwa
    go_wp2_with fail
    refine HT.out.mono ?_
    rintro e w2 ⟨v2, rfl, hown2, hk2, hb2⟩
    have H2 := Lib.hid (And.intro hown2 (And.intro ((KeptU.new HB.out).trans hk2) hb2))
    clear hown2 hk2 hb2
    go_wp2_with fail
    go_ret
    exact ⟨_, rfl, H2.out⟩

set_option maxRecDepth 100000 in
set_option maxHeartbeats 4000000 in
theorem rfmt_leaf (w0 : World) (q : List (List UInt8)) (Aq : Option Addr) (cq : Nat) (hq : NamesAt w0 Aq q) (hql : q.length ≤ 1000000000) (k p : Int) (n : List UInt8) (hk : (k = 1 ∧ n ∉ q) ∨ k = 2 ∨ k = 3 ∨ k = 4) (v : Value) (w : World) (acc : List UInt8) (vb : Value) (hv : TreeV w0 (.node k n p []) v) (hb0 : Below w0.heap.size w0 w) (hown : w.ownsRow w0.heap.size 5 1 vb acc.length (Lib.byteCells acc)) (hl : acc.length + ((Lfc.Raw.node k n p []).text q).length ≤ 10000000000) :
    Calls Tryd.prog 39 #[vb, v, .slice Aq q.length cq] w fun e w' => ∃ vb', e = .returned vb' ∧ w'.ownsRow w0.heap.size 5 1 vb' (acc ++ (Lfc.Raw.node k n p []).text q).length (Lib.byteCells (acc ++ (Lfc.Raw.node k n p []).text q)) ∧ KeptU w w' ∧ Below w0.heap.size w0 w' := by
  have hnn := hv.name_le
  obtain ⟨A, c, rfl, hc, hA⟩ := hv.open_
  simp only [List.length_nil] at *
  obtain ⟨i0, hi0, hz0, hz1, hz2⟩ := info_parts byteInfo
  obtain ⟨wa, hwa⟩ : ∃ wa, w.alloc (.cells #[.int .i64 k, S n, .int .i64 p, .slice A 0 c] 39) = wa := ⟨_, rfl⟩
  have ba : Below w.heap.size w wa := by rw [← hwa]; exact (Below.refl _ _).alloc (Nat.le_refl _) _
  have qa : wa.heap[w.heap.size]? = some (.cells #[.int .i64 k, S n, .int .i64 p, .slice A 0 c] 39 (0, 0)) := by rw [← hwa]; exact heap_alloc_new _ _
  obtain ⟨x0, x1, x2, x3⟩ := cells4 qa
  have H0 : Hid (BS w0 w w.heap.size #[.int .i64 k, S n, .int .i64 p, .slice A 0 c] acc wa vb) := Lib.hid ⟨own_below hown ba, KeptU.new ba, hb0.trans (ba.mono hb0.size), qa⟩
  have HIN := Lib.hid (rIn_any q n Aq cq wa hql (hq.below H0.out.bel))
  obtain ⟨Al, cl, rfl⟩ := own_form hown
  have hsz0 := H0.out.bel.size
  clear qa ba hv hown hb0 hA hq
  rcases hk with ⟨rfl, hnq⟩ | rfl | rfl | rfl
  · have htx : (Lfc.Raw.node 1 n p []).text q = n := by simp [Lfc.Raw.text, Lfc.putText, hnq]
    rw [htx] at hl ⊢
    rw [decide_eq_false hnq] at HIN
    have hlm : acc.length + (⟨n.toArray⟩ : ByteArray).size ≤ maxLen := by rw [bsize]; unfold maxLen; omega
    have hlb : acc.length + (⟨n.toArray⟩ : ByteArray).size ≤ 140737488355328 := by rw [bsize]; omega
    clear htx hnq
    go_enter Tryd.func39, Tryd.ntmps39
    go_upto_region 1 with fail
    clear hwa
    go_wp2_with fail
    refine HIN.out.mono ?_
    rintro e w2 ⟨rfl, hw2⟩
    obtain rfl := hw2
    go_wp2_with (at_builtin; refine Lib.wpList_append_own_string wa rfl _ _ 74 9 rfl w0.heap.size 5 i0 Tryd.underlying74 Tryd.underlying9 hi0 hz0 hz1 hz2 _ _ _ rfl H0.out.own ⟨n.toArray⟩ rfl hlm hlb hsz0 ?_)
    intro v3 w3 hown3 hg3 _
    have H3 := Lib.hid (H0.out.pushS hown3 hg3)
    clear hown3 hg3
    go_wp2_with fail
    go_ret
    exact ⟨_, rfl, H3.out.own, H3.out.kept, H3.out.bel⟩
  · have htx : (Lfc.Raw.node 2 n p []).text q = [64] ++ n := by simp [Lfc.Raw.text, Lfc.putText]
    rw [htx] at hl ⊢
    simp only [List.length_append, List.length_singleton] at hl
    have hlm : acc.length + 1 ≤ maxLen := by unfold maxLen; omega
    have hlb : (acc.length + 1) * 1 ≤ 140737488355328 := by omega
    have hlm2 : (acc ++ [64]).length + (⟨n.toArray⟩ : ByteArray).size ≤ maxLen := by rw [bsize]; simp only [List.length_append, List.length_singleton]; unfold maxLen; omega
    have hlb2 : (acc ++ [64]).length + (⟨n.toArray⟩ : ByteArray).size ≤ 140737488355328 := by rw [bsize]; simp only [List.length_append, List.length_singleton]; omega
    clear htx
    go_enter Tryd.func39, Tryd.ntmps39
    go_upto_region 1 with fail
    clear hwa
    go_wp2_with fail
    go_region_held3 (fun w' => w'.cell? ⟨w.heap.size, 1, none⟩ = some (S n))
      (first | exact Lib.cell_of_heap (H0.out.new (Below.refl _ _).drew).box 1 | exact Lib.cell_of_heap (H0.out.new ((Below.refl _ _).alloc (Nat.le_refl _) _).drew).box 1 | exact Lib.cell_of_heap H1.out.box 1 | exact Lib.cell_of_heap H2.out.box 1)
      (first
        | (refine step_append_own_at _ (by rfl) _ _ 74 (by rfl) w0.heap.size 5 i0 (.int .u8 0) 1 1 Tryd.underlying74 hi0 hz0 hz1 hz2 rfl (by decide) _ _ _ (by rfl) ((H0.out.own.alloc _).drew) ⟨wa.heap.size, 0, none⟩ 1 1 [.int .u8 64] (by rfl) (by rfl) (fun j u h => cell_one_new wa _ 5 j u h) (byte_one 64) hlm hlb (alloc_le hsz0) ?_; intro v1 w1 hown1 hg1 hloc1; have H1 := Lib.hid ((H0.out.new (((Below.refl _ _).alloc (Nat.le_refl _) _).drew)).push (bs := [64]) hown1 hg1))
        | (refine step_append_strB _ (by rfl) _ _ 74 9 (by rfl) w0.heap.size 5 i0 Tryd.underlying74 Tryd.underlying9 hi0 hz0 hz1 hz2 _ _ _ (by rfl) H1.out.own ⟨n.toArray⟩ (by rfl) hlm2 hlb2 H1.out.bel.size ?_; intro v2 w2 hown2 hg2; have H2 := Lib.hid (H1.out.pushS hown2 hg2)))
    clear hown2 hg2 hown1 hg1 hloc1
    go_wp2_with fail
    go_ret
    refine ⟨_, rfl, ?_, H2.out.kept, H2.out.bel⟩
    have := H2.out.own
    rw [List.append_assoc] at this
    exact this
  · have htx : (Lfc.Raw.node 3 n p []).text q = [95] := by simp [Lfc.Raw.text, Lfc.putText]
    rw [htx] at hl ⊢
    have hlm : acc.length + 1 ≤ maxLen := by simp only [List.length_singleton] at hl; unfold maxLen; omega
    have hlb : (acc.length + 1) * 1 ≤ 140737488355328 := by simp only [List.length_singleton] at hl; omega
    clear htx
    go_enter Tryd.func39, Tryd.ntmps39
    go_upto_region 1 with fail
    clear hwa
    go_wp2_with (at_builtin; refine wpList_append_own_at _ rfl _ _ 74 rfl w0.heap.size 5 i0 (.int .u8 0) 1 1 Tryd.underlying74 hi0 hz0 hz1 hz2 rfl (by decide) _ _ _ rfl (H0.out.own.alloc _) ⟨wa.heap.size, 0, none⟩ 1 1 [.int .u8 95] rfl rfl (cell_one_new _ _ _) (byte_one 95) hlm hlb (alloc_le hsz0) ?_)
    intro v5 w5 hown5 hg5 _ _
    have H5 := Lib.hid ((H0.out.new ((Below.refl _ _).alloc (Nat.le_refl _) _)).push (bs := [95]) hown5 hg5)
    clear hown5 hg5
    go_wp2_with fail
    go_ret
    exact ⟨_, rfl, H5.out.own, H5.out.kept, H5.out.bel⟩
  · have htx : (Lfc.Raw.node 4 n p []).text q = [116, 121, 112, 101] := by simp [Lfc.Raw.text, Lfc.putText]
    rw [htx] at hl ⊢
    simp only [List.length_cons, List.length_nil] at hl
    have hlm : acc.length + (⟨#[116, 121, 112, 101]⟩ : ByteArray).size ≤ maxLen := by show acc.length + 4 ≤ maxLen; unfold maxLen; omega
    have hlb : acc.length + (⟨#[116, 121, 112, 101]⟩ : ByteArray).size ≤ 140737488355328 := by show acc.length + 4 ≤ _; omega
    clear htx
    go_enter Tryd.func39, Tryd.ntmps39
    go_upto_region 1 with fail
    clear hwa
    go_wp2_with (at_builtin; refine Lib.wpList_append_own_string wa rfl _ _ 74 9 rfl w0.heap.size 5 i0 Tryd.underlying74 Tryd.underlying9 hi0 hz0 hz1 hz2 _ _ _ rfl H0.out.own ⟨#[116, 121, 112, 101]⟩ rfl hlm hlb hsz0 ?_)
    intro v3 w3 hown3 hg3 _
    have H3 := Lib.hid (H0.out.pushS (bs := [116, 121, 112, 101]) hown3 hg3)
    clear hown3 hg3
    go_wp2_with fail
    go_ret
    exact ⟨_, rfl, H3.out.own, H3.out.kept, H3.out.bel⟩
end Go.Proofs.YtkhfnkokdmoipaaDoor

/- The contract of the reference's format: the binders. -/
set_option linter.unusedVariables false
set_option linter.unusedSimpArgs false
namespace Go.Proofs.YtkhfnkokdmoipaaDoor
open Go.RowKit Go.Maps Go.WideMaps

theorem byte_two (c d : UInt8) : ∀ u ∈ [Value.int .u8 (c.toNat : Int), .int .u8 (d.toNat : Int)], u.oneCell' = true := by
  intro u hu; simp at hu; rcases hu with rfl | rfl <;> rfl

set_option maxRecDepth 100000 in
set_option maxHeartbeats 4000000 in
theorem rfmt_b1k7 (w0 : World) (q : List (List UInt8)) (Aq : Option Addr) (cq m : Nat) (ih : RFmtUpto w0 q Aq cq m) (p : Int) (n : List UInt8) (a : Lfc.Raw) (hm : Lfc.Raw.sizes [a] ≤ m) (hf : Lfc.Raw.forms [a] = true) (v : Value) (w : World) (acc : List UInt8) (vb : Value) (hv : TreeV w0 (.node 7 n p [a]) v) (hb0 : Below w0.heap.size w0 w) (hown : w.ownsRow w0.heap.size 5 1 vb acc.length (Lib.byteCells acc)) (hl : acc.length + ((Lfc.Raw.node 7 n p [a]).text q).length ≤ 10000000000) :
    Calls Tryd.prog 39 #[vb, v, .slice Aq q.length cq] w fun e w' => ∃ vb', e = .returned vb' ∧ w'.ownsRow w0.heap.size 5 1 vb' (acc ++ (Lfc.Raw.node 7 n p [a]).text q).length (Lib.byteCells (acc ++ (Lfc.Raw.node 7 n p [a]).text q)) ∧ KeptU w w' ∧ Below w0.heap.size w0 w' := by
  have htx : (Lfc.Raw.node 7 n p [a]).text q = [40, 123] ++ n ++ [125, 32] ++ a.text q ++ [41] := by simp [Lfc.Raw.text, Lfc.Raw.texts, Lfc.putText, Lfc.bindText]
  rw [htx] at hl ⊢
  clear htx
  obtain ⟨A, c, rfl, hc, hA⟩ := hv.open_
  simp only [Lfc.Raw.sizes, Lfc.Raw.forms, Bool.and_true, Bool.and_eq_true, Nat.add_zero, List.length_append, List.length_cons, List.length_nil, Nat.zero_add, Nat.reduceAdd] at hm hf hl
  have IH := Lib.hid ih
  obtain ⟨i0, hi0, hz0, hz1, hz2⟩ := info_parts byteInfo
  obtain ⟨Bk, O, k1, n1, p1, us, B1, c1, rfl, hbB, ht, d0, d1, d2, d3, hcu, hB1, hT⟩ := hA.at_ (i := 0) (by simp)
  simp only [List.getElem_cons_zero, Nat.zero_mul, Nat.add_zero] at hT ht d0 d1 d2 d3
  clear ht hB1 hA
  obtain ⟨wa, hwa⟩ : ∃ wa, w.alloc (.cells #[.int .i64 7, S n, .int .i64 p, .slice (some ⟨Bk, O, none⟩) 1 c] 39) = wa := ⟨_, rfl⟩
  have ba : Below w.heap.size w wa := by rw [← hwa]; exact (Below.refl _ _).alloc (Nat.le_refl _) _
  have qa : wa.heap[w.heap.size]? = some (.cells #[.int .i64 7, S n, .int .i64 p, .slice (some ⟨Bk, O, none⟩) 1 c] 39 (0, 0)) := by rw [← hwa]; exact heap_alloc_new _ _
  obtain ⟨x0, x1, x2, x3⟩ := cells4 qa
  have H0 : Hid (BS w0 w w.heap.size #[.int .i64 7, S n, .int .i64 p, .slice (some ⟨Bk, O, none⟩) 1 c] acc wa vb) := Lib.hid ⟨own_below hown ba, KeptU.new ba, hb0.trans (ba.mono hb0.size), qa⟩
  have SC := Lib.hid (fun (wx : World) (vx : Value) (ax : List UInt8) (h : BS w0 w w.heap.size #[.int .i64 7, S n, .int .i64 p, .slice (some ⟨Bk, O, none⟩) 1 c] ax wx vx) => show wx.cell? ⟨w.heap.size, 1, none⟩ = some (S n) ∧ wx.cell? ⟨w.heap.size, 3, none⟩ = some (.slice (some ⟨Bk, O, none⟩) 1 c) ∧ (wx.cell? ⟨Bk, O, none⟩ = some (.int .i64 k1) ∧ wx.cell? ⟨Bk, O + 1, none⟩ = some (S n1) ∧ wx.cell? ⟨Bk, O + 2, none⟩ = some (.int .i64 p1) ∧ wx.cell? ⟨Bk, O + 3, none⟩ = some (.slice B1 us.length c1)) from
    ⟨Lib.cell_of_heap h.box 1, Lib.cell_of_heap h.box 3, ⟨(h.bel.cell (p := ⟨Bk, _, none⟩) hbB).trans d0, (h.bel.cell (p := ⟨Bk, _, none⟩) hbB).trans d1, (h.bel.cell (p := ⟨Bk, _, none⟩) hbB).trans d2, (h.bel.cell (p := ⟨Bk, _, none⟩) hbB).trans d3⟩⟩)
  obtain ⟨Al, cl, rfl⟩ := own_form hown
  have l0 : (acc.length + 2 ≤ maxLen) ∧ ((acc.length + 2) * 1 ≤ 140737488355328) := by
    constructor <;> (try simp only [List.length_append, List.length_cons, List.length_nil, bsize]) <;> (try unfold maxLen) <;> omega
  have l1 : ((acc ++ [40, 123]).length + (⟨n.toArray⟩ : ByteArray).size ≤ maxLen) ∧ ((acc ++ [40, 123]).length + (⟨n.toArray⟩ : ByteArray).size ≤ 140737488355328) := by
    constructor <;> (try simp only [List.length_append, List.length_cons, List.length_nil, bsize]) <;> (try unfold maxLen) <;> omega
  have l4 : (((acc ++ [40, 123]) ++ n).length + 2 ≤ maxLen) ∧ ((((acc ++ [40, 123]) ++ n).length + 2) * 1 ≤ 140737488355328) := by
    constructor <;> (try simp only [List.length_append, List.length_cons, List.length_nil, bsize]) <;> (try unfold maxLen) <;> omega
  have l5 : (((((acc ++ [40, 123]) ++ n) ++ [125, 32]) ++ a.text q).length + 1 ≤ maxLen) ∧ ((((((acc ++ [40, 123]) ++ n) ++ [125, 32]) ++ a.text q).length + 1) * 1 ≤ 140737488355328) := by
    constructor <;> (try simp only [List.length_append, List.length_cons, List.length_nil, bsize]) <;> (try unfold maxLen) <;> omega
  have h1b : a.size ≤ m := by omega
  have h4b : (((acc ++ [40, 123]) ++ n) ++ [125, 32]).length + (a.text q).length ≤ 10000000000 := by simp only [List.length_append, List.length_cons, List.length_nil]; omega
  clear qa ba hv ih hown hb0 d0 d1 d2 d3
  go_enter Tryd.func39, Tryd.ntmps39
  go_upto_region 1 with fail
  clear hwa
  go_wp2_with fail
  go_region_held3 (fun wx => wx.cell? ⟨w.heap.size, 1, none⟩ = some (S n) ∧ wx.cell? ⟨w.heap.size, 3, none⟩ = some (.slice (some ⟨Bk, O, none⟩) 1 c) ∧ (wx.cell? ⟨Bk, O, none⟩ = some (.int .i64 k1) ∧ wx.cell? ⟨Bk, O + 1, none⟩ = some (S n1) ∧ wx.cell? ⟨Bk, O + 2, none⟩ = some (.int .i64 p1) ∧ wx.cell? ⟨Bk, O + 3, none⟩ = some (.slice B1 us.length c1)))
    (first | exact SC.out _ _ _ (H0.out.new (Below.refl _ _).drew) | exact SC.out _ _ _ (H0.out.new ((Below.refl _ _).alloc (Nat.le_refl _) _).drew) | exact SC.out _ _ _ H1.out | exact SC.out _ _ _ H2.out)
    (first
      | (refine step_append_own_at _ (by rfl) _ _ 74 (by rfl) w0.heap.size 5 i0 (.int .u8 0) 1 1 Tryd.underlying74 hi0 hz0 hz1 hz2 rfl (by decide) _ _ _ (by rfl) ((H0.out.own.alloc _).drew) ⟨wa.heap.size, 0, none⟩ 2 2 [.int .u8 40, .int .u8 123] (by rfl) (by rfl) (fun j u h => cells_new wa _ rfl [.int .u8 40, .int .u8 123] 5 j u h) (byte_two 40 123) l0.1 l0.2 (alloc_le H0.out.bel.size) ?_; intro v1 w1 hown1 hg1 hloc1; have H1 := Lib.hid ((H0.out.new (((Below.refl _ _).alloc (Nat.le_refl _) _).drew)).push (bs := [40, 123]) hown1 hg1))
      | (refine step_append_strB _ (by rfl) _ _ 74 9 (by rfl) w0.heap.size 5 i0 Tryd.underlying74 Tryd.underlying9 hi0 hz0 hz1 hz2 _ _ _ (by rfl) H1.out.own ⟨n.toArray⟩ (by rfl) l1.1 l1.2 H1.out.bel.size ?_; intro v2 w2 hown2 hg2; have H2 := Lib.hid (H1.out.pushS hown2 hg2)))
  clear hown1 hg1 hloc1 hown2 hg2 x0 x1 x2 x3
  obtain ⟨x1, x3, _⟩ := SC.out _ _ _ H2.out
  go_wp2_with fail
  have hzw : IntKind.i64.wrap 0 = 0 := by decide
  go_region_held3 (fun wx => wx.cell? ⟨w.heap.size, 1, none⟩ = some (S n) ∧ wx.cell? ⟨w.heap.size, 3, none⟩ = some (.slice (some ⟨Bk, O, none⟩) 1 c) ∧ (wx.cell? ⟨Bk, O, none⟩ = some (.int .i64 k1) ∧ wx.cell? ⟨Bk, O + 1, none⟩ = some (S n1) ∧ wx.cell? ⟨Bk, O + 2, none⟩ = some (.int .i64 p1) ∧ wx.cell? ⟨Bk, O + 3, none⟩ = some (.slice B1 us.length c1)))
    (first | exact SC.out _ _ _ (H2.out.new (Below.refl _ _).drew) | exact SC.out _ _ _ (H2.out.new ((Below.refl _ _).alloc (Nat.le_refl _) _).drew) | exact SC.out _ _ _ H5.out | exact SC.out _ _ _ H6.out)
    (first
      | (go_at_call 39; refine (IH.out a _ _ (((acc ++ [40, 123]) ++ n) ++ [125, 32]) _ h1b hf hT H5.out.bel H5.out.own h4b).mono ?_; rintro e w6 ⟨v6, rfl, hown6, hg6, hb6⟩; have H6 := Lib.hid (H5.out.next hown6 hg6 hb6))
      | (refine step_append_own_at _ (by rfl) _ _ 74 (by rfl) w0.heap.size 5 i0 (.int .u8 0) 1 1 Tryd.underlying74 hi0 hz0 hz1 hz2 rfl (by decide) _ _ _ (by rfl) ((H2.out.own.alloc _).drew) ⟨w2.heap.size, 0, none⟩ 2 2 [.int .u8 125, .int .u8 32] (by rfl) (by rfl) (fun j u h => cells_new w2 _ rfl [.int .u8 125, .int .u8 32] 5 j u h) (byte_two 125 32) l4.1 l4.2 (alloc_le H2.out.bel.size) ?_; intro v5 w5 hown5 hg5 hloc5; have H5 := Lib.hid ((H2.out.new (((Below.refl _ _).alloc (Nat.le_refl _) _).drew)).push (bs := [125, 32]) hown5 hg5)))
  clear hown5 hg5 hloc5 hown6 hg6 hb6
  obtain ⟨Z, hZ⟩ : ∃ Z, ((((acc ++ [40, 123]) ++ n) ++ [125, 32]) ++ a.text q) = Z := ⟨_, rfl⟩
  rw [hZ] at H6 l5
  have HZ := Lib.hid hZ
  have hlm6 := l5.1
  have hlb6 := l5.2
  have hsz6 := H6.out.bel.size
  clear hZ
  go_wp2_with (at_builtin; refine wpList_append_own_at _ rfl _ _ 74 rfl w0.heap.size 5 i0 (.int .u8 0) 1 1 Tryd.underlying74 hi0 hz0 hz1 hz2 rfl (by decide) _ _ _ rfl (H6.out.own.alloc _) ⟨w6.heap.size, 0, none⟩ 1 1 [.int .u8 41] rfl rfl (cell_one_new _ _ _) (byte_one 41) hlm6 hlb6 (alloc_le hsz6) ?_)
  intro v7 w7 hown7 hg7 _ _
  have H7 := Lib.hid ((H6.out.new ((Below.refl _ _).alloc (Nat.le_refl _) _)).push (bs := [41]) hown7 hg7)
  clear hown7 hg7
  go_wp2_with fail
  go_ret
  refine ⟨_, rfl, ?_, H7.out.kept, H7.out.bel⟩
  have := H7.out.own
  rw [← HZ.out] at this
  simpa [List.append_assoc] using this

set_option maxRecDepth 100000 in
set_option maxHeartbeats 4000000 in
theorem rfmt_b1k8 (w0 : World) (q : List (List UInt8)) (Aq : Option Addr) (cq m : Nat) (ih : RFmtUpto w0 q Aq cq m) (p : Int) (n : List UInt8) (a : Lfc.Raw) (hm : Lfc.Raw.sizes [a] ≤ m) (hf : Lfc.Raw.forms [a] = true) (v : Value) (w : World) (acc : List UInt8) (vb : Value) (hv : TreeV w0 (.node 8 n p [a]) v) (hb0 : Below w0.heap.size w0 w) (hown : w.ownsRow w0.heap.size 5 1 vb acc.length (Lib.byteCells acc)) (hl : acc.length + ((Lfc.Raw.node 8 n p [a]).text q).length ≤ 10000000000) :
    Calls Tryd.prog 39 #[vb, v, .slice Aq q.length cq] w fun e w' => ∃ vb', e = .returned vb' ∧ w'.ownsRow w0.heap.size 5 1 vb' (acc ++ (Lfc.Raw.node 8 n p [a]).text q).length (Lib.byteCells (acc ++ (Lfc.Raw.node 8 n p [a]).text q)) ∧ KeptU w w' ∧ Below w0.heap.size w0 w' := by
  have htx : (Lfc.Raw.node 8 n p [a]).text q = [40, 91] ++ n ++ [93, 32] ++ a.text q ++ [41] := by simp [Lfc.Raw.text, Lfc.Raw.texts, Lfc.putText, Lfc.bindText]
  rw [htx] at hl ⊢
  clear htx
  obtain ⟨A, c, rfl, hc, hA⟩ := hv.open_
  simp only [Lfc.Raw.sizes, Lfc.Raw.forms, Bool.and_true, Bool.and_eq_true, Nat.add_zero, List.length_append, List.length_cons, List.length_nil, Nat.zero_add, Nat.reduceAdd] at hm hf hl
  have IH := Lib.hid ih
  obtain ⟨i0, hi0, hz0, hz1, hz2⟩ := info_parts byteInfo
  obtain ⟨Bk, O, k1, n1, p1, us, B1, c1, rfl, hbB, ht, d0, d1, d2, d3, hcu, hB1, hT⟩ := hA.at_ (i := 0) (by simp)
  simp only [List.getElem_cons_zero, Nat.zero_mul, Nat.add_zero] at hT ht d0 d1 d2 d3
  clear ht hB1 hA
  obtain ⟨wa, hwa⟩ : ∃ wa, w.alloc (.cells #[.int .i64 8, S n, .int .i64 p, .slice (some ⟨Bk, O, none⟩) 1 c] 39) = wa := ⟨_, rfl⟩
  have ba : Below w.heap.size w wa := by rw [← hwa]; exact (Below.refl _ _).alloc (Nat.le_refl _) _
  have qa : wa.heap[w.heap.size]? = some (.cells #[.int .i64 8, S n, .int .i64 p, .slice (some ⟨Bk, O, none⟩) 1 c] 39 (0, 0)) := by rw [← hwa]; exact heap_alloc_new _ _
  obtain ⟨x0, x1, x2, x3⟩ := cells4 qa
  have H0 : Hid (BS w0 w w.heap.size #[.int .i64 8, S n, .int .i64 p, .slice (some ⟨Bk, O, none⟩) 1 c] acc wa vb) := Lib.hid ⟨own_below hown ba, KeptU.new ba, hb0.trans (ba.mono hb0.size), qa⟩
  have SC := Lib.hid (fun (wx : World) (vx : Value) (ax : List UInt8) (h : BS w0 w w.heap.size #[.int .i64 8, S n, .int .i64 p, .slice (some ⟨Bk, O, none⟩) 1 c] ax wx vx) => show wx.cell? ⟨w.heap.size, 1, none⟩ = some (S n) ∧ wx.cell? ⟨w.heap.size, 3, none⟩ = some (.slice (some ⟨Bk, O, none⟩) 1 c) ∧ (wx.cell? ⟨Bk, O, none⟩ = some (.int .i64 k1) ∧ wx.cell? ⟨Bk, O + 1, none⟩ = some (S n1) ∧ wx.cell? ⟨Bk, O + 2, none⟩ = some (.int .i64 p1) ∧ wx.cell? ⟨Bk, O + 3, none⟩ = some (.slice B1 us.length c1)) from
    ⟨Lib.cell_of_heap h.box 1, Lib.cell_of_heap h.box 3, ⟨(h.bel.cell (p := ⟨Bk, _, none⟩) hbB).trans d0, (h.bel.cell (p := ⟨Bk, _, none⟩) hbB).trans d1, (h.bel.cell (p := ⟨Bk, _, none⟩) hbB).trans d2, (h.bel.cell (p := ⟨Bk, _, none⟩) hbB).trans d3⟩⟩)
  obtain ⟨Al, cl, rfl⟩ := own_form hown
  have l0 : (acc.length + 2 ≤ maxLen) ∧ ((acc.length + 2) * 1 ≤ 140737488355328) := by
    constructor <;> (try simp only [List.length_append, List.length_cons, List.length_nil, bsize]) <;> (try unfold maxLen) <;> omega
  have l1 : ((acc ++ [40, 91]).length + (⟨n.toArray⟩ : ByteArray).size ≤ maxLen) ∧ ((acc ++ [40, 91]).length + (⟨n.toArray⟩ : ByteArray).size ≤ 140737488355328) := by
    constructor <;> (try simp only [List.length_append, List.length_cons, List.length_nil, bsize]) <;> (try unfold maxLen) <;> omega
  have l4 : (((acc ++ [40, 91]) ++ n).length + 2 ≤ maxLen) ∧ ((((acc ++ [40, 91]) ++ n).length + 2) * 1 ≤ 140737488355328) := by
    constructor <;> (try simp only [List.length_append, List.length_cons, List.length_nil, bsize]) <;> (try unfold maxLen) <;> omega
  have l5 : (((((acc ++ [40, 91]) ++ n) ++ [93, 32]) ++ a.text q).length + 1 ≤ maxLen) ∧ ((((((acc ++ [40, 91]) ++ n) ++ [93, 32]) ++ a.text q).length + 1) * 1 ≤ 140737488355328) := by
    constructor <;> (try simp only [List.length_append, List.length_cons, List.length_nil, bsize]) <;> (try unfold maxLen) <;> omega
  have h1b : a.size ≤ m := by omega
  have h4b : (((acc ++ [40, 91]) ++ n) ++ [93, 32]).length + (a.text q).length ≤ 10000000000 := by simp only [List.length_append, List.length_cons, List.length_nil]; omega
  clear qa ba hv ih hown hb0 d0 d1 d2 d3
  go_enter Tryd.func39, Tryd.ntmps39
  go_upto_region 1 with fail
  clear hwa
  go_wp2_with fail
  go_region_held3 (fun wx => wx.cell? ⟨w.heap.size, 1, none⟩ = some (S n) ∧ wx.cell? ⟨w.heap.size, 3, none⟩ = some (.slice (some ⟨Bk, O, none⟩) 1 c) ∧ (wx.cell? ⟨Bk, O, none⟩ = some (.int .i64 k1) ∧ wx.cell? ⟨Bk, O + 1, none⟩ = some (S n1) ∧ wx.cell? ⟨Bk, O + 2, none⟩ = some (.int .i64 p1) ∧ wx.cell? ⟨Bk, O + 3, none⟩ = some (.slice B1 us.length c1)))
    (first | exact SC.out _ _ _ (H0.out.new (Below.refl _ _).drew) | exact SC.out _ _ _ (H0.out.new ((Below.refl _ _).alloc (Nat.le_refl _) _).drew) | exact SC.out _ _ _ H1.out | exact SC.out _ _ _ H2.out)
    (first
      | (refine step_append_own_at _ (by rfl) _ _ 74 (by rfl) w0.heap.size 5 i0 (.int .u8 0) 1 1 Tryd.underlying74 hi0 hz0 hz1 hz2 rfl (by decide) _ _ _ (by rfl) ((H0.out.own.alloc _).drew) ⟨wa.heap.size, 0, none⟩ 2 2 [.int .u8 40, .int .u8 91] (by rfl) (by rfl) (fun j u h => cells_new wa _ rfl [.int .u8 40, .int .u8 91] 5 j u h) (byte_two 40 91) l0.1 l0.2 (alloc_le H0.out.bel.size) ?_; intro v1 w1 hown1 hg1 hloc1; have H1 := Lib.hid ((H0.out.new (((Below.refl _ _).alloc (Nat.le_refl _) _).drew)).push (bs := [40, 91]) hown1 hg1))
      | (refine step_append_strB _ (by rfl) _ _ 74 9 (by rfl) w0.heap.size 5 i0 Tryd.underlying74 Tryd.underlying9 hi0 hz0 hz1 hz2 _ _ _ (by rfl) H1.out.own ⟨n.toArray⟩ (by rfl) l1.1 l1.2 H1.out.bel.size ?_; intro v2 w2 hown2 hg2; have H2 := Lib.hid (H1.out.pushS hown2 hg2)))
  clear hown1 hg1 hloc1 hown2 hg2 x0 x1 x2 x3
  obtain ⟨x1, x3, _⟩ := SC.out _ _ _ H2.out
  go_wp2_with fail
  have hzw : IntKind.i64.wrap 0 = 0 := by decide
  go_region_held3 (fun wx => wx.cell? ⟨w.heap.size, 1, none⟩ = some (S n) ∧ wx.cell? ⟨w.heap.size, 3, none⟩ = some (.slice (some ⟨Bk, O, none⟩) 1 c) ∧ (wx.cell? ⟨Bk, O, none⟩ = some (.int .i64 k1) ∧ wx.cell? ⟨Bk, O + 1, none⟩ = some (S n1) ∧ wx.cell? ⟨Bk, O + 2, none⟩ = some (.int .i64 p1) ∧ wx.cell? ⟨Bk, O + 3, none⟩ = some (.slice B1 us.length c1)))
    (first | exact SC.out _ _ _ (H2.out.new (Below.refl _ _).drew) | exact SC.out _ _ _ (H2.out.new ((Below.refl _ _).alloc (Nat.le_refl _) _).drew) | exact SC.out _ _ _ H5.out | exact SC.out _ _ _ H6.out)
    (first
      | (go_at_call 39; refine (IH.out a _ _ (((acc ++ [40, 91]) ++ n) ++ [93, 32]) _ h1b hf hT H5.out.bel H5.out.own h4b).mono ?_; rintro e w6 ⟨v6, rfl, hown6, hg6, hb6⟩; have H6 := Lib.hid (H5.out.next hown6 hg6 hb6))
      | (refine step_append_own_at _ (by rfl) _ _ 74 (by rfl) w0.heap.size 5 i0 (.int .u8 0) 1 1 Tryd.underlying74 hi0 hz0 hz1 hz2 rfl (by decide) _ _ _ (by rfl) ((H2.out.own.alloc _).drew) ⟨w2.heap.size, 0, none⟩ 2 2 [.int .u8 93, .int .u8 32] (by rfl) (by rfl) (fun j u h => cells_new w2 _ rfl [.int .u8 93, .int .u8 32] 5 j u h) (byte_two 93 32) l4.1 l4.2 (alloc_le H2.out.bel.size) ?_; intro v5 w5 hown5 hg5 hloc5; have H5 := Lib.hid ((H2.out.new (((Below.refl _ _).alloc (Nat.le_refl _) _).drew)).push (bs := [93, 32]) hown5 hg5)))
  clear hown5 hg5 hloc5 hown6 hg6 hb6
  obtain ⟨Z, hZ⟩ : ∃ Z, ((((acc ++ [40, 91]) ++ n) ++ [93, 32]) ++ a.text q) = Z := ⟨_, rfl⟩
  rw [hZ] at H6 l5
  have HZ := Lib.hid hZ
  have hlm6 := l5.1
  have hlb6 := l5.2
  have hsz6 := H6.out.bel.size
  clear hZ
  go_wp2_with (at_builtin; refine wpList_append_own_at _ rfl _ _ 74 rfl w0.heap.size 5 i0 (.int .u8 0) 1 1 Tryd.underlying74 hi0 hz0 hz1 hz2 rfl (by decide) _ _ _ rfl (H6.out.own.alloc _) ⟨w6.heap.size, 0, none⟩ 1 1 [.int .u8 41] rfl rfl (cell_one_new _ _ _) (byte_one 41) hlm6 hlb6 (alloc_le hsz6) ?_)
  intro v7 w7 hown7 hg7 _ _
  have H7 := Lib.hid ((H6.out.new ((Below.refl _ _).alloc (Nat.le_refl _) _)).push (bs := [41]) hown7 hg7)
  clear hown7 hg7
  go_wp2_with fail
  go_ret
  refine ⟨_, rfl, ?_, H7.out.kept, H7.out.bel⟩
  have := H7.out.own
  rw [← HZ.out] at this
  simpa [List.append_assoc] using this

set_option maxRecDepth 100000 in
set_option maxHeartbeats 4000000 in
theorem rfmt_b2k7 (w0 : World) (q : List (List UInt8)) (Aq : Option Addr) (cq m : Nat) (ih : RFmtUpto w0 q Aq cq m) (p : Int) (n : List UInt8) (a a' : Lfc.Raw) (hm : Lfc.Raw.sizes [a, a'] ≤ m) (hf : Lfc.Raw.forms [a, a'] = true) (v : Value) (w : World) (acc : List UInt8) (vb : Value) (hv : TreeV w0 (.node 7 n p [a, a']) v) (hb0 : Below w0.heap.size w0 w) (hown : w.ownsRow w0.heap.size 5 1 vb acc.length (Lib.byteCells acc)) (hl : acc.length + ((Lfc.Raw.node 7 n p [a, a']).text q).length ≤ 10000000000) :
    Calls Tryd.prog 39 #[vb, v, .slice Aq q.length cq] w fun e w' => ∃ vb', e = .returned vb' ∧ w'.ownsRow w0.heap.size 5 1 vb' (acc ++ (Lfc.Raw.node 7 n p [a, a']).text q).length (Lib.byteCells (acc ++ (Lfc.Raw.node 7 n p [a, a']).text q)) ∧ KeptU w w' ∧ Below w0.heap.size w0 w' := by
  have htx : (Lfc.Raw.node 7 n p [a, a']).text q = [40, 123] ++ n ++ [58] ++ a.text q ++ [125, 32] ++ a'.text q ++ [41] := by simp [Lfc.Raw.text, Lfc.Raw.texts, Lfc.putText, Lfc.bindText]
  rw [htx] at hl ⊢
  clear htx
  obtain ⟨A, c, rfl, hc, hA⟩ := hv.open_
  simp only [Lfc.Raw.sizes, Lfc.Raw.forms, Bool.and_true, Bool.and_eq_true, Nat.add_zero, List.length_append, List.length_cons, List.length_nil, Nat.zero_add, Nat.reduceAdd] at hm hf hl
  have IH := Lib.hid ih
  obtain ⟨i0, hi0, hz0, hz1, hz2⟩ := info_parts byteInfo
  obtain ⟨Bk, O, k1, n1, p1, us, B1, c1, rfl, hbB, ht, d0, d1, d2, d3, hcu, hB1, hT⟩ := hA.at_ (i := 0) (by simp)
  obtain ⟨B2', O', k2, n2, p2, ys, B2, c2, hBO, hb', ht', e0, e1, e2, e3, hcu', hB2, hT'⟩ := hA.at_ (i := 1) (by simp)
  simp only [List.getElem_cons_zero, List.getElem_cons_succ, Nat.zero_mul, Nat.one_mul, Nat.add_zero] at hT ht d0 d1 d2 d3 hT' ht' e0 e1 e2 e3
  cases hBO
  obtain ⟨hfa, hfa'⟩ := hf
  clear ht hB1 hA ht' hB2 hb'
  obtain ⟨wa, hwa⟩ : ∃ wa, w.alloc (.cells #[.int .i64 7, S n, .int .i64 p, .slice (some ⟨Bk, O, none⟩) 2 c] 39) = wa := ⟨_, rfl⟩
  have ba : Below w.heap.size w wa := by rw [← hwa]; exact (Below.refl _ _).alloc (Nat.le_refl _) _
  have qa : wa.heap[w.heap.size]? = some (.cells #[.int .i64 7, S n, .int .i64 p, .slice (some ⟨Bk, O, none⟩) 2 c] 39 (0, 0)) := by rw [← hwa]; exact heap_alloc_new _ _
  obtain ⟨x0, x1, x2, x3⟩ := cells4 qa
  have H0 : Hid (BS w0 w w.heap.size #[.int .i64 7, S n, .int .i64 p, .slice (some ⟨Bk, O, none⟩) 2 c] acc wa vb) := Lib.hid ⟨own_below hown ba, KeptU.new ba, hb0.trans (ba.mono hb0.size), qa⟩
  have SC := Lib.hid (fun (wx : World) (vx : Value) (ax : List UInt8) (h : BS w0 w w.heap.size #[.int .i64 7, S n, .int .i64 p, .slice (some ⟨Bk, O, none⟩) 2 c] ax wx vx) => show wx.cell? ⟨w.heap.size, 1, none⟩ = some (S n) ∧ wx.cell? ⟨w.heap.size, 3, none⟩ = some (.slice (some ⟨Bk, O, none⟩) 2 c) ∧ (wx.cell? ⟨Bk, O, none⟩ = some (.int .i64 k1) ∧ wx.cell? ⟨Bk, O + 1, none⟩ = some (S n1) ∧ wx.cell? ⟨Bk, O + 2, none⟩ = some (.int .i64 p1) ∧ wx.cell? ⟨Bk, O + 3, none⟩ = some (.slice B1 us.length c1)) ∧ (wx.cell? ⟨Bk, O + 4, none⟩ = some (.int .i64 k2) ∧ wx.cell? ⟨Bk, O + 4 + 1, none⟩ = some (S n2) ∧ wx.cell? ⟨Bk, O + 4 + 2, none⟩ = some (.int .i64 p2) ∧ wx.cell? ⟨Bk, O + 4 + 3, none⟩ = some (.slice B2 ys.length c2)) from
    ⟨Lib.cell_of_heap h.box 1, Lib.cell_of_heap h.box 3, ⟨(h.bel.cell (p := ⟨Bk, _, none⟩) hbB).trans d0, (h.bel.cell (p := ⟨Bk, _, none⟩) hbB).trans d1, (h.bel.cell (p := ⟨Bk, _, none⟩) hbB).trans d2, (h.bel.cell (p := ⟨Bk, _, none⟩) hbB).trans d3⟩, ⟨(h.bel.cell (p := ⟨Bk, _, none⟩) hbB).trans e0, (h.bel.cell (p := ⟨Bk, _, none⟩) hbB).trans e1, (h.bel.cell (p := ⟨Bk, _, none⟩) hbB).trans e2, (h.bel.cell (p := ⟨Bk, _, none⟩) hbB).trans e3⟩⟩)
  obtain ⟨Al, cl, rfl⟩ := own_form hown
  have l0 : (acc.length + 2 ≤ maxLen) ∧ ((acc.length + 2) * 1 ≤ 140737488355328) := by
    constructor <;> (try simp only [List.length_append, List.length_cons, List.length_nil, bsize]) <;> (try unfold maxLen) <;> omega
  have l1 : ((acc ++ [40, 123]).length + (⟨n.toArray⟩ : ByteArray).size ≤ maxLen) ∧ ((acc ++ [40, 123]).length + (⟨n.toArray⟩ : ByteArray).size ≤ 140737488355328) := by
    constructor <;> (try simp only [List.length_append, List.length_cons, List.length_nil, bsize]) <;> (try unfold maxLen) <;> omega
  have l2 : (((acc ++ [40, 123]) ++ n).length + 1 ≤ maxLen) ∧ ((((acc ++ [40, 123]) ++ n).length + 1) * 1 ≤ 140737488355328) := by
    constructor <;> (try simp only [List.length_append, List.length_cons, List.length_nil, bsize]) <;> (try unfold maxLen) <;> omega
  have l4 : (((((acc ++ [40, 123]) ++ n) ++ [58]) ++ a.text q).length + 2 ≤ maxLen) ∧ ((((((acc ++ [40, 123]) ++ n) ++ [58]) ++ a.text q).length + 2) * 1 ≤ 140737488355328) := by
    constructor <;> (try simp only [List.length_append, List.length_cons, List.length_nil, bsize]) <;> (try unfold maxLen) <;> omega
  have l5 : (((((((acc ++ [40, 123]) ++ n) ++ [58]) ++ a.text q) ++ [125, 32]) ++ a'.text q).length + 1 ≤ maxLen) ∧ ((((((((acc ++ [40, 123]) ++ n) ++ [58]) ++ a.text q) ++ [125, 32]) ++ a'.text q).length + 1) * 1 ≤ 140737488355328) := by
    constructor <;> (try simp only [List.length_append, List.length_cons, List.length_nil, bsize]) <;> (try unfold maxLen) <;> omega
  have h1a : a.size ≤ m := by omega
  have h4a : (((acc ++ [40, 123]) ++ n) ++ [58]).length + (a.text q).length ≤ 10000000000 := by simp only [List.length_append, List.length_cons, List.length_nil]; omega
  have h1b : a'.size ≤ m := by omega
  have h4b : (((((acc ++ [40, 123]) ++ n) ++ [58]) ++ a.text q) ++ [125, 32]).length + (a'.text q).length ≤ 10000000000 := by simp only [List.length_append, List.length_cons, List.length_nil]; omega
  clear qa ba hv ih hown hb0 d0 d1 d2 d3 e0 e1 e2 e3
  go_enter Tryd.func39, Tryd.ntmps39
  go_upto_region 1 with fail
  clear hwa
  go_wp2_with fail
  go_region_held3 (fun wx => wx.cell? ⟨w.heap.size, 1, none⟩ = some (S n) ∧ wx.cell? ⟨w.heap.size, 3, none⟩ = some (.slice (some ⟨Bk, O, none⟩) 2 c) ∧ (wx.cell? ⟨Bk, O, none⟩ = some (.int .i64 k1) ∧ wx.cell? ⟨Bk, O + 1, none⟩ = some (S n1) ∧ wx.cell? ⟨Bk, O + 2, none⟩ = some (.int .i64 p1) ∧ wx.cell? ⟨Bk, O + 3, none⟩ = some (.slice B1 us.length c1)) ∧ (wx.cell? ⟨Bk, O + 4, none⟩ = some (.int .i64 k2) ∧ wx.cell? ⟨Bk, O + 4 + 1, none⟩ = some (S n2) ∧ wx.cell? ⟨Bk, O + 4 + 2, none⟩ = some (.int .i64 p2) ∧ wx.cell? ⟨Bk, O + 4 + 3, none⟩ = some (.slice B2 ys.length c2)))
    (first | exact SC.out _ _ _ (H0.out.new (Below.refl _ _).drew) | exact SC.out _ _ _ (H0.out.new ((Below.refl _ _).alloc (Nat.le_refl _) _).drew) | exact SC.out _ _ _ H1.out | exact SC.out _ _ _ H2.out)
    (first
      | (refine step_append_own_at _ (by rfl) _ _ 74 (by rfl) w0.heap.size 5 i0 (.int .u8 0) 1 1 Tryd.underlying74 hi0 hz0 hz1 hz2 rfl (by decide) _ _ _ (by rfl) ((H0.out.own.alloc _).drew) ⟨wa.heap.size, 0, none⟩ 2 2 [.int .u8 40, .int .u8 123] (by rfl) (by rfl) (fun j u h => cells_new wa _ rfl [.int .u8 40, .int .u8 123] 5 j u h) (byte_two 40 123) l0.1 l0.2 (alloc_le H0.out.bel.size) ?_; intro v1 w1 hown1 hg1 hloc1; have H1 := Lib.hid ((H0.out.new (((Below.refl _ _).alloc (Nat.le_refl _) _).drew)).push (bs := [40, 123]) hown1 hg1))
      | (refine step_append_strB _ (by rfl) _ _ 74 9 (by rfl) w0.heap.size 5 i0 Tryd.underlying74 Tryd.underlying9 hi0 hz0 hz1 hz2 _ _ _ (by rfl) H1.out.own ⟨n.toArray⟩ (by rfl) l1.1 l1.2 H1.out.bel.size ?_; intro v2 w2 hown2 hg2; have H2 := Lib.hid (H1.out.pushS hown2 hg2)))
  clear hown1 hg1 hloc1 hown2 hg2 x0 x1 x2 x3
  obtain ⟨x1, x3, _⟩ := SC.out _ _ _ H2.out
  go_wp2_with fail
  go_region_held3 (fun wx => wx.cell? ⟨w.heap.size, 1, none⟩ = some (S n) ∧ wx.cell? ⟨w.heap.size, 3, none⟩ = some (.slice (some ⟨Bk, O, none⟩) 2 c) ∧ (wx.cell? ⟨Bk, O, none⟩ = some (.int .i64 k1) ∧ wx.cell? ⟨Bk, O + 1, none⟩ = some (S n1) ∧ wx.cell? ⟨Bk, O + 2, none⟩ = some (.int .i64 p1) ∧ wx.cell? ⟨Bk, O + 3, none⟩ = some (.slice B1 us.length c1)) ∧ (wx.cell? ⟨Bk, O + 4, none⟩ = some (.int .i64 k2) ∧ wx.cell? ⟨Bk, O + 4 + 1, none⟩ = some (S n2) ∧ wx.cell? ⟨Bk, O + 4 + 2, none⟩ = some (.int .i64 p2) ∧ wx.cell? ⟨Bk, O + 4 + 3, none⟩ = some (.slice B2 ys.length c2)))
    (first | exact SC.out _ _ _ (H2.out.new (Below.refl _ _).drew) | exact SC.out _ _ _ (H2.out.new ((Below.refl _ _).alloc (Nat.le_refl _) _).drew) | exact SC.out _ _ _ H3.out | exact SC.out _ _ _ H4.out)
    (first
      | (go_at_call 39; refine (IH.out a _ _ (((acc ++ [40, 123]) ++ n) ++ [58]) _ h1a hfa hT H3.out.bel H3.out.own h4a).mono ?_; rintro e w4 ⟨v4, rfl, hown4, hg4, hb4⟩; have H4 := Lib.hid (H3.out.next hown4 hg4 hb4))
      | (refine step_append_own_at _ (by rfl) _ _ 74 (by rfl) w0.heap.size 5 i0 (.int .u8 0) 1 1 Tryd.underlying74 hi0 hz0 hz1 hz2 rfl (by decide) _ _ _ (by rfl) ((H2.out.own.alloc _).drew) ⟨w2.heap.size, 0, none⟩ 1 1 [.int .u8 58] (by rfl) (by rfl) (fun j u h => cells_new w2 _ rfl [.int .u8 58] 5 j u h) (byte_one 58) l2.1 l2.2 (alloc_le H2.out.bel.size) ?_; intro v3 w3 hown3 hg3 hloc3; have H3 := Lib.hid ((H2.out.new (((Below.refl _ _).alloc (Nat.le_refl _) _).drew)).push (bs := [58]) hown3 hg3)))
  clear hown3 hg3 hloc3 hown4 hg4 hb4 x1 x3
  obtain ⟨x1, x3, _⟩ := SC.out _ _ _ H4.out
  go_wp2_with fail
  have hzw : IntKind.i64.wrap 1 = 1 := by decide
  go_region_held3 (fun wx => wx.cell? ⟨w.heap.size, 1, none⟩ = some (S n) ∧ wx.cell? ⟨w.heap.size, 3, none⟩ = some (.slice (some ⟨Bk, O, none⟩) 2 c) ∧ (wx.cell? ⟨Bk, O, none⟩ = some (.int .i64 k1) ∧ wx.cell? ⟨Bk, O + 1, none⟩ = some (S n1) ∧ wx.cell? ⟨Bk, O + 2, none⟩ = some (.int .i64 p1) ∧ wx.cell? ⟨Bk, O + 3, none⟩ = some (.slice B1 us.length c1)) ∧ (wx.cell? ⟨Bk, O + 4, none⟩ = some (.int .i64 k2) ∧ wx.cell? ⟨Bk, O + 4 + 1, none⟩ = some (S n2) ∧ wx.cell? ⟨Bk, O + 4 + 2, none⟩ = some (.int .i64 p2) ∧ wx.cell? ⟨Bk, O + 4 + 3, none⟩ = some (.slice B2 ys.length c2)))
    (first | exact SC.out _ _ _ (H4.out.new (Below.refl _ _).drew) | exact SC.out _ _ _ (H4.out.new ((Below.refl _ _).alloc (Nat.le_refl _) _).drew) | exact SC.out _ _ _ H5.out | exact SC.out _ _ _ H6.out)
    (first
      | (go_at_call 39; refine (IH.out a' _ _ (((((acc ++ [40, 123]) ++ n) ++ [58]) ++ a.text q) ++ [125, 32]) _ h1b hfa' hT' H5.out.bel H5.out.own h4b).mono ?_; rintro e w6 ⟨v6, rfl, hown6, hg6, hb6⟩; have H6 := Lib.hid (H5.out.next hown6 hg6 hb6))
      | (refine step_append_own_at _ (by rfl) _ _ 74 (by rfl) w0.heap.size 5 i0 (.int .u8 0) 1 1 Tryd.underlying74 hi0 hz0 hz1 hz2 rfl (by decide) _ _ _ (by rfl) ((H4.out.own.alloc _).drew) ⟨w4.heap.size, 0, none⟩ 2 2 [.int .u8 125, .int .u8 32] (by rfl) (by rfl) (fun j u h => cells_new w4 _ rfl [.int .u8 125, .int .u8 32] 5 j u h) (byte_two 125 32) l4.1 l4.2 (alloc_le H4.out.bel.size) ?_; intro v5 w5 hown5 hg5 hloc5; have H5 := Lib.hid ((H4.out.new (((Below.refl _ _).alloc (Nat.le_refl _) _).drew)).push (bs := [125, 32]) hown5 hg5)))
  clear hown5 hg5 hloc5 hown6 hg6 hb6
  obtain ⟨Z, hZ⟩ : ∃ Z, ((((((acc ++ [40, 123]) ++ n) ++ [58]) ++ a.text q) ++ [125, 32]) ++ a'.text q) = Z := ⟨_, rfl⟩
  rw [hZ] at H6 l5
  have HZ := Lib.hid hZ
  have hlm6 := l5.1
  have hlb6 := l5.2
  have hsz6 := H6.out.bel.size
  clear hZ
  go_wp2_with (at_builtin; refine wpList_append_own_at _ rfl _ _ 74 rfl w0.heap.size 5 i0 (.int .u8 0) 1 1 Tryd.underlying74 hi0 hz0 hz1 hz2 rfl (by decide) _ _ _ rfl (H6.out.own.alloc _) ⟨w6.heap.size, 0, none⟩ 1 1 [.int .u8 41] rfl rfl (cell_one_new _ _ _) (byte_one 41) hlm6 hlb6 (alloc_le hsz6) ?_)
  intro v7 w7 hown7 hg7 _ _
  have H7 := Lib.hid ((H6.out.new ((Below.refl _ _).alloc (Nat.le_refl _) _)).push (bs := [41]) hown7 hg7)
  clear hown7 hg7
  go_wp2_with fail
  go_ret
  refine ⟨_, rfl, ?_, H7.out.kept, H7.out.bel⟩
  have := H7.out.own
  rw [← HZ.out] at this
  simpa [List.append_assoc] using this

set_option maxRecDepth 100000 in
set_option maxHeartbeats 4000000 in
theorem rfmt_b2k8 (w0 : World) (q : List (List UInt8)) (Aq : Option Addr) (cq m : Nat) (ih : RFmtUpto w0 q Aq cq m) (p : Int) (n : List UInt8) (a a' : Lfc.Raw) (hm : Lfc.Raw.sizes [a, a'] ≤ m) (hf : Lfc.Raw.forms [a, a'] = true) (v : Value) (w : World) (acc : List UInt8) (vb : Value) (hv : TreeV w0 (.node 8 n p [a, a']) v) (hb0 : Below w0.heap.size w0 w) (hown : w.ownsRow w0.heap.size 5 1 vb acc.length (Lib.byteCells acc)) (hl : acc.length + ((Lfc.Raw.node 8 n p [a, a']).text q).length ≤ 10000000000) :
    Calls Tryd.prog 39 #[vb, v, .slice Aq q.length cq] w fun e w' => ∃ vb', e = .returned vb' ∧ w'.ownsRow w0.heap.size 5 1 vb' (acc ++ (Lfc.Raw.node 8 n p [a, a']).text q).length (Lib.byteCells (acc ++ (Lfc.Raw.node 8 n p [a, a']).text q)) ∧ KeptU w w' ∧ Below w0.heap.size w0 w' := by
  have htx : (Lfc.Raw.node 8 n p [a, a']).text q = [40, 91] ++ n ++ [58] ++ a.text q ++ [93, 32] ++ a'.text q ++ [41] := by simp [Lfc.Raw.text, Lfc.Raw.texts, Lfc.putText, Lfc.bindText]
  rw [htx] at hl ⊢
  clear htx
  obtain ⟨A, c, rfl, hc, hA⟩ := hv.open_
  simp only [Lfc.Raw.sizes, Lfc.Raw.forms, Bool.and_true, Bool.and_eq_true, Nat.add_zero, List.length_append, List.length_cons, List.length_nil, Nat.zero_add, Nat.reduceAdd] at hm hf hl
  have IH := Lib.hid ih
  obtain ⟨i0, hi0, hz0, hz1, hz2⟩ := info_parts byteInfo
  obtain ⟨Bk, O, k1, n1, p1, us, B1, c1, rfl, hbB, ht, d0, d1, d2, d3, hcu, hB1, hT⟩ := hA.at_ (i := 0) (by simp)
  obtain ⟨B2', O', k2, n2, p2, ys, B2, c2, hBO, hb', ht', e0, e1, e2, e3, hcu', hB2, hT'⟩ := hA.at_ (i := 1) (by simp)
  simp only [List.getElem_cons_zero, List.getElem_cons_succ, Nat.zero_mul, Nat.one_mul, Nat.add_zero] at hT ht d0 d1 d2 d3 hT' ht' e0 e1 e2 e3
  cases hBO
  obtain ⟨hfa, hfa'⟩ := hf
  clear ht hB1 hA ht' hB2 hb'
  obtain ⟨wa, hwa⟩ : ∃ wa, w.alloc (.cells #[.int .i64 8, S n, .int .i64 p, .slice (some ⟨Bk, O, none⟩) 2 c] 39) = wa := ⟨_, rfl⟩
  have ba : Below w.heap.size w wa := by rw [← hwa]; exact (Below.refl _ _).alloc (Nat.le_refl _) _
  have qa : wa.heap[w.heap.size]? = some (.cells #[.int .i64 8, S n, .int .i64 p, .slice (some ⟨Bk, O, none⟩) 2 c] 39 (0, 0)) := by rw [← hwa]; exact heap_alloc_new _ _
  obtain ⟨x0, x1, x2, x3⟩ := cells4 qa
  have H0 : Hid (BS w0 w w.heap.size #[.int .i64 8, S n, .int .i64 p, .slice (some ⟨Bk, O, none⟩) 2 c] acc wa vb) := Lib.hid ⟨own_below hown ba, KeptU.new ba, hb0.trans (ba.mono hb0.size), qa⟩
  have SC := Lib.hid (fun (wx : World) (vx : Value) (ax : List UInt8) (h : BS w0 w w.heap.size #[.int .i64 8, S n, .int .i64 p, .slice (some ⟨Bk, O, none⟩) 2 c] ax wx vx) => show wx.cell? ⟨w.heap.size, 1, none⟩ = some (S n) ∧ wx.cell? ⟨w.heap.size, 3, none⟩ = some (.slice (some ⟨Bk, O, none⟩) 2 c) ∧ (wx.cell? ⟨Bk, O, none⟩ = some (.int .i64 k1) ∧ wx.cell? ⟨Bk, O + 1, none⟩ = some (S n1) ∧ wx.cell? ⟨Bk, O + 2, none⟩ = some (.int .i64 p1) ∧ wx.cell? ⟨Bk, O + 3, none⟩ = some (.slice B1 us.length c1)) ∧ (wx.cell? ⟨Bk, O + 4, none⟩ = some (.int .i64 k2) ∧ wx.cell? ⟨Bk, O + 4 + 1, none⟩ = some (S n2) ∧ wx.cell? ⟨Bk, O + 4 + 2, none⟩ = some (.int .i64 p2) ∧ wx.cell? ⟨Bk, O + 4 + 3, none⟩ = some (.slice B2 ys.length c2)) from
    ⟨Lib.cell_of_heap h.box 1, Lib.cell_of_heap h.box 3, ⟨(h.bel.cell (p := ⟨Bk, _, none⟩) hbB).trans d0, (h.bel.cell (p := ⟨Bk, _, none⟩) hbB).trans d1, (h.bel.cell (p := ⟨Bk, _, none⟩) hbB).trans d2, (h.bel.cell (p := ⟨Bk, _, none⟩) hbB).trans d3⟩, ⟨(h.bel.cell (p := ⟨Bk, _, none⟩) hbB).trans e0, (h.bel.cell (p := ⟨Bk, _, none⟩) hbB).trans e1, (h.bel.cell (p := ⟨Bk, _, none⟩) hbB).trans e2, (h.bel.cell (p := ⟨Bk, _, none⟩) hbB).trans e3⟩⟩)
  obtain ⟨Al, cl, rfl⟩ := own_form hown
  have l0 : (acc.length + 2 ≤ maxLen) ∧ ((acc.length + 2) * 1 ≤ 140737488355328) := by
    constructor <;> (try simp only [List.length_append, List.length_cons, List.length_nil, bsize]) <;> (try unfold maxLen) <;> omega
  have l1 : ((acc ++ [40, 91]).length + (⟨n.toArray⟩ : ByteArray).size ≤ maxLen) ∧ ((acc ++ [40, 91]).length + (⟨n.toArray⟩ : ByteArray).size ≤ 140737488355328) := by
    constructor <;> (try simp only [List.length_append, List.length_cons, List.length_nil, bsize]) <;> (try unfold maxLen) <;> omega
  have l2 : (((acc ++ [40, 91]) ++ n).length + 1 ≤ maxLen) ∧ ((((acc ++ [40, 91]) ++ n).length + 1) * 1 ≤ 140737488355328) := by
    constructor <;> (try simp only [List.length_append, List.length_cons, List.length_nil, bsize]) <;> (try unfold maxLen) <;> omega
  have l4 : (((((acc ++ [40, 91]) ++ n) ++ [58]) ++ a.text q).length + 2 ≤ maxLen) ∧ ((((((acc ++ [40, 91]) ++ n) ++ [58]) ++ a.text q).length + 2) * 1 ≤ 140737488355328) := by
    constructor <;> (try simp only [List.length_append, List.length_cons, List.length_nil, bsize]) <;> (try unfold maxLen) <;> omega
  have l5 : (((((((acc ++ [40, 91]) ++ n) ++ [58]) ++ a.text q) ++ [93, 32]) ++ a'.text q).length + 1 ≤ maxLen) ∧ ((((((((acc ++ [40, 91]) ++ n) ++ [58]) ++ a.text q) ++ [93, 32]) ++ a'.text q).length + 1) * 1 ≤ 140737488355328) := by
    constructor <;> (try simp only [List.length_append, List.length_cons, List.length_nil, bsize]) <;> (try unfold maxLen) <;> omega
  have h1a : a.size ≤ m := by omega
  have h4a : (((acc ++ [40, 91]) ++ n) ++ [58]).length + (a.text q).length ≤ 10000000000 := by simp only [List.length_append, List.length_cons, List.length_nil]; omega
  have h1b : a'.size ≤ m := by omega
  have h4b : (((((acc ++ [40, 91]) ++ n) ++ [58]) ++ a.text q) ++ [93, 32]).length + (a'.text q).length ≤ 10000000000 := by simp only [List.length_append, List.length_cons, List.length_nil]; omega
  clear qa ba hv ih hown hb0 d0 d1 d2 d3 e0 e1 e2 e3
  go_enter Tryd.func39, Tryd.ntmps39
  go_upto_region 1 with fail
  clear hwa
  go_wp2_with fail
  go_region_held3 (fun wx => wx.cell? ⟨w.heap.size, 1, none⟩ = some (S n) ∧ wx.cell? ⟨w.heap.size, 3, none⟩ = some (.slice (some ⟨Bk, O, none⟩) 2 c) ∧ (wx.cell? ⟨Bk, O, none⟩ = some (.int .i64 k1) ∧ wx.cell? ⟨Bk, O + 1, none⟩ = some (S n1) ∧ wx.cell? ⟨Bk, O + 2, none⟩ = some (.int .i64 p1) ∧ wx.cell? ⟨Bk, O + 3, none⟩ = some (.slice B1 us.length c1)) ∧ (wx.cell? ⟨Bk, O + 4, none⟩ = some (.int .i64 k2) ∧ wx.cell? ⟨Bk, O + 4 + 1, none⟩ = some (S n2) ∧ wx.cell? ⟨Bk, O + 4 + 2, none⟩ = some (.int .i64 p2) ∧ wx.cell? ⟨Bk, O + 4 + 3, none⟩ = some (.slice B2 ys.length c2)))
    (first | exact SC.out _ _ _ (H0.out.new (Below.refl _ _).drew) | exact SC.out _ _ _ (H0.out.new ((Below.refl _ _).alloc (Nat.le_refl _) _).drew) | exact SC.out _ _ _ H1.out | exact SC.out _ _ _ H2.out)
    (first
      | (refine step_append_own_at _ (by rfl) _ _ 74 (by rfl) w0.heap.size 5 i0 (.int .u8 0) 1 1 Tryd.underlying74 hi0 hz0 hz1 hz2 rfl (by decide) _ _ _ (by rfl) ((H0.out.own.alloc _).drew) ⟨wa.heap.size, 0, none⟩ 2 2 [.int .u8 40, .int .u8 91] (by rfl) (by rfl) (fun j u h => cells_new wa _ rfl [.int .u8 40, .int .u8 91] 5 j u h) (byte_two 40 91) l0.1 l0.2 (alloc_le H0.out.bel.size) ?_; intro v1 w1 hown1 hg1 hloc1; have H1 := Lib.hid ((H0.out.new (((Below.refl _ _).alloc (Nat.le_refl _) _).drew)).push (bs := [40, 91]) hown1 hg1))
      | (refine step_append_strB _ (by rfl) _ _ 74 9 (by rfl) w0.heap.size 5 i0 Tryd.underlying74 Tryd.underlying9 hi0 hz0 hz1 hz2 _ _ _ (by rfl) H1.out.own ⟨n.toArray⟩ (by rfl) l1.1 l1.2 H1.out.bel.size ?_; intro v2 w2 hown2 hg2; have H2 := Lib.hid (H1.out.pushS hown2 hg2)))
  clear hown1 hg1 hloc1 hown2 hg2 x0 x1 x2 x3
  obtain ⟨x1, x3, _⟩ := SC.out _ _ _ H2.out
  go_wp2_with fail
  go_region_held3 (fun wx => wx.cell? ⟨w.heap.size, 1, none⟩ = some (S n) ∧ wx.cell? ⟨w.heap.size, 3, none⟩ = some (.slice (some ⟨Bk, O, none⟩) 2 c) ∧ (wx.cell? ⟨Bk, O, none⟩ = some (.int .i64 k1) ∧ wx.cell? ⟨Bk, O + 1, none⟩ = some (S n1) ∧ wx.cell? ⟨Bk, O + 2, none⟩ = some (.int .i64 p1) ∧ wx.cell? ⟨Bk, O + 3, none⟩ = some (.slice B1 us.length c1)) ∧ (wx.cell? ⟨Bk, O + 4, none⟩ = some (.int .i64 k2) ∧ wx.cell? ⟨Bk, O + 4 + 1, none⟩ = some (S n2) ∧ wx.cell? ⟨Bk, O + 4 + 2, none⟩ = some (.int .i64 p2) ∧ wx.cell? ⟨Bk, O + 4 + 3, none⟩ = some (.slice B2 ys.length c2)))
    (first | exact SC.out _ _ _ (H2.out.new (Below.refl _ _).drew) | exact SC.out _ _ _ (H2.out.new ((Below.refl _ _).alloc (Nat.le_refl _) _).drew) | exact SC.out _ _ _ H3.out | exact SC.out _ _ _ H4.out)
    (first
      | (go_at_call 39; refine (IH.out a _ _ (((acc ++ [40, 91]) ++ n) ++ [58]) _ h1a hfa hT H3.out.bel H3.out.own h4a).mono ?_; rintro e w4 ⟨v4, rfl, hown4, hg4, hb4⟩; have H4 := Lib.hid (H3.out.next hown4 hg4 hb4))
      | (refine step_append_own_at _ (by rfl) _ _ 74 (by rfl) w0.heap.size 5 i0 (.int .u8 0) 1 1 Tryd.underlying74 hi0 hz0 hz1 hz2 rfl (by decide) _ _ _ (by rfl) ((H2.out.own.alloc _).drew) ⟨w2.heap.size, 0, none⟩ 1 1 [.int .u8 58] (by rfl) (by rfl) (fun j u h => cells_new w2 _ rfl [.int .u8 58] 5 j u h) (byte_one 58) l2.1 l2.2 (alloc_le H2.out.bel.size) ?_; intro v3 w3 hown3 hg3 hloc3; have H3 := Lib.hid ((H2.out.new (((Below.refl _ _).alloc (Nat.le_refl _) _).drew)).push (bs := [58]) hown3 hg3)))
  clear hown3 hg3 hloc3 hown4 hg4 hb4 x1 x3
  obtain ⟨x1, x3, _⟩ := SC.out _ _ _ H4.out
  go_wp2_with fail
  have hzw : IntKind.i64.wrap 1 = 1 := by decide
  go_region_held3 (fun wx => wx.cell? ⟨w.heap.size, 1, none⟩ = some (S n) ∧ wx.cell? ⟨w.heap.size, 3, none⟩ = some (.slice (some ⟨Bk, O, none⟩) 2 c) ∧ (wx.cell? ⟨Bk, O, none⟩ = some (.int .i64 k1) ∧ wx.cell? ⟨Bk, O + 1, none⟩ = some (S n1) ∧ wx.cell? ⟨Bk, O + 2, none⟩ = some (.int .i64 p1) ∧ wx.cell? ⟨Bk, O + 3, none⟩ = some (.slice B1 us.length c1)) ∧ (wx.cell? ⟨Bk, O + 4, none⟩ = some (.int .i64 k2) ∧ wx.cell? ⟨Bk, O + 4 + 1, none⟩ = some (S n2) ∧ wx.cell? ⟨Bk, O + 4 + 2, none⟩ = some (.int .i64 p2) ∧ wx.cell? ⟨Bk, O + 4 + 3, none⟩ = some (.slice B2 ys.length c2)))
    (first | exact SC.out _ _ _ (H4.out.new (Below.refl _ _).drew) | exact SC.out _ _ _ (H4.out.new ((Below.refl _ _).alloc (Nat.le_refl _) _).drew) | exact SC.out _ _ _ H5.out | exact SC.out _ _ _ H6.out)
    (first
      | (go_at_call 39; refine (IH.out a' _ _ (((((acc ++ [40, 91]) ++ n) ++ [58]) ++ a.text q) ++ [93, 32]) _ h1b hfa' hT' H5.out.bel H5.out.own h4b).mono ?_; rintro e w6 ⟨v6, rfl, hown6, hg6, hb6⟩; have H6 := Lib.hid (H5.out.next hown6 hg6 hb6))
      | (refine step_append_own_at _ (by rfl) _ _ 74 (by rfl) w0.heap.size 5 i0 (.int .u8 0) 1 1 Tryd.underlying74 hi0 hz0 hz1 hz2 rfl (by decide) _ _ _ (by rfl) ((H4.out.own.alloc _).drew) ⟨w4.heap.size, 0, none⟩ 2 2 [.int .u8 93, .int .u8 32] (by rfl) (by rfl) (fun j u h => cells_new w4 _ rfl [.int .u8 93, .int .u8 32] 5 j u h) (byte_two 93 32) l4.1 l4.2 (alloc_le H4.out.bel.size) ?_; intro v5 w5 hown5 hg5 hloc5; have H5 := Lib.hid ((H4.out.new (((Below.refl _ _).alloc (Nat.le_refl _) _).drew)).push (bs := [93, 32]) hown5 hg5)))
  clear hown5 hg5 hloc5 hown6 hg6 hb6
  obtain ⟨Z, hZ⟩ : ∃ Z, ((((((acc ++ [40, 91]) ++ n) ++ [58]) ++ a.text q) ++ [93, 32]) ++ a'.text q) = Z := ⟨_, rfl⟩
  rw [hZ] at H6 l5
  have HZ := Lib.hid hZ
  have hlm6 := l5.1
  have hlb6 := l5.2
  have hsz6 := H6.out.bel.size
  clear hZ
  go_wp2_with (at_builtin; refine wpList_append_own_at _ rfl _ _ 74 rfl w0.heap.size 5 i0 (.int .u8 0) 1 1 Tryd.underlying74 hi0 hz0 hz1 hz2 rfl (by decide) _ _ _ rfl (H6.out.own.alloc _) ⟨w6.heap.size, 0, none⟩ 1 1 [.int .u8 41] rfl rfl (cell_one_new _ _ _) (byte_one 41) hlm6 hlb6 (alloc_le hsz6) ?_)
  intro v7 w7 hown7 hg7 _ _
  have H7 := Lib.hid ((H6.out.new ((Below.refl _ _).alloc (Nat.le_refl _) _)).push (bs := [41]) hown7 hg7)
  clear hown7 hg7
  go_wp2_with fail
  go_ret
  refine ⟨_, rfl, ?_, H7.out.kept, H7.out.bel⟩
  have := H7.out.own
  rw [← HZ.out] at this
  simpa [List.append_assoc] using this

end Go.Proofs.YtkhfnkokdmoipaaDoor

/- The contract of the reference's format at a quoted name, and of its Format. -/
set_option linter.unusedVariables false
set_option linter.unusedSimpArgs false
namespace Go.Proofs.YtkhfnkokdmoipaaDoor
open Go.RowKit Go.Maps Go.WideMaps

theorem own_block_lt {w : World} {base : Nat} {e : TypeId} {size n : Nat} {v : Value} {xs : List Value} (h : w.ownsRow base e size v n xs) : ∀ k, v.ownBlock = some k → k < w.heap.size := by
  rcases h.2 with ⟨rfl, rfl⟩ | ⟨g, cap, cur, rfl, _, hg, _⟩
  · intro k hk; cases hk
  · intro k hk; cases hk; exact lt_of_block hg
/-- A frame of format beside a block that bears the closing bracket. -/
structure BQ (w0 : World) (w : World) (R : Nat) (box : Array Value) (acc : List UInt8) (wr : World) (vr : Value) (B : Nat) : Prop where
  bs : BS w0 w R box acc wr vr
  q : wr.heap[B]? = some (.cells #[.int .u8 41] 5 (0, 0))
  ne : vr.ownBlock ≠ some B
theorem BS.q41 {w0 w wr : World} {vr : Value} {R : Nat} {box : Array Value} {acc : List UInt8} (h : BS w0 w R box acc wr vr) (B : Nat) (hB : B = wr.heap.size) : BQ w0 w R box acc (wr.alloc (.cells #[.int .u8 41] 5)) vr B := by
  subst hB
  exact ⟨h.new ((Below.refl _ _).alloc (Nat.le_refl _) _), heap_alloc_new _ _, fun e => absurd (own_block_lt h.own _ e) (by omega)⟩
theorem BQ.new {w0 w wr w2 : World} {vr : Value} {R B : Nat} {box : Array Value} {acc : List UInt8} (h : BQ w0 w R box acc wr vr B) (hb : Below wr.heap.size wr w2) : BQ w0 w R box acc w2 vr B :=
  ⟨h.bs.new hb, (hb.block _ (lt_of_block h.q)).trans h.q, h.ne⟩
theorem BQ.push {w0 w wr w2 : World} {vr v' : Value} {R B : Nat} {box : Array Value} {acc bs : List UInt8} (h : BQ w0 w R box acc wr vr B) (hown2 : w2.ownsRow w0.heap.size 5 1 v' (acc.length + bs.length) (Lib.byteCells acc ++ Lib.byteCells bs)) (hg2 : wr.grownBy w2 vr.ownBlock) (hloc : v'.ownBlock = vr.ownBlock ∨ v'.ownBlock = some wr.heap.size) : BQ w0 w R box (acc ++ bs) w2 v' B := by
  refine ⟨h.bs.push hown2 hg2, (hg2.block _ (lt_of_block h.q) (fun e => h.ne e.symm)).trans h.q, ?_⟩
  have hlt := lt_of_block h.q
  rcases hloc with e | e
  · rw [e]; exact h.ne
  · rw [e]; intro e2; injection e2 with e2; omega
theorem BQ.pushS {w0 w wr w2 : World} {vr v' : Value} {R B : Nat} {box : Array Value} {acc bs : List UInt8} (h : BQ w0 w R box acc wr vr B) (hown2 : w2.ownsRow w0.heap.size 5 1 v' (acc.length + (⟨bs.toArray⟩ : ByteArray).size) (Lib.byteCells acc ++ Lib.strCells ⟨bs.toArray⟩)) (hg2 : wr.grownBy w2 vr.ownBlock) : BS w0 w R box (acc ++ bs) w2 v' ∧ w2.heap[B]? = some (.cells #[.int .u8 41] 5 (0, 0)) :=
  ⟨h.bs.pushS hown2 hg2, (hg2.block _ (lt_of_block h.q) (fun e => h.ne e.symm)).trans h.q⟩
theorem one_cell {w : World} {B : Nat} {x : Value} {t : TypeId} (h : w.heap[B]? = some (.cells #[x] t (0, 0))) (j : Nat) (u : Value) (hu : [x][j]? = some u) : w.cell? ((⟨B, 0, none⟩ : Addr).add j) = some u := by
  rw [addr_add, cell_of_row _ _ j #[x] t (0, 0) h]
  simpa using hu

set_option maxRecDepth 100000 in
set_option maxHeartbeats 4000000 in
theorem rfmt_quoted (w0 : World) (q : List (List UInt8)) (Aq : Option Addr) (cq : Nat) (hq : NamesAt w0 Aq q) (hql : q.length ≤ 1000000000) (p : Int) (n : List UInt8) (hnq : n ∈ q) (v : Value) (w : World) (acc : List UInt8) (vb : Value) (hv : TreeV w0 (.node 1 n p []) v) (hb0 : Below w0.heap.size w0 w) (hown : w.ownsRow w0.heap.size 5 1 vb acc.length (Lib.byteCells acc)) (hl : acc.length + ((Lfc.Raw.node 1 n p []).text q).length ≤ 10000000000) :
    Calls Tryd.prog 39 #[vb, v, .slice Aq q.length cq] w fun e w' => ∃ vb', e = .returned vb' ∧ w'.ownsRow w0.heap.size 5 1 vb' (acc ++ (Lfc.Raw.node 1 n p []).text q).length (Lib.byteCells (acc ++ (Lfc.Raw.node 1 n p []).text q)) ∧ KeptU w w' ∧ Below w0.heap.size w0 w' := by
  have htx : (Lfc.Raw.node 1 n p []).text q = [40] ++ n ++ [41] := by simp [Lfc.Raw.text, Lfc.putText, hnq]
  rw [htx] at hl ⊢
  simp only [List.length_append, List.length_singleton] at hl
  obtain ⟨A, c, rfl, hc, hA⟩ := hv.open_
  simp only [List.length_nil] at *
  obtain ⟨i0, hi0, hz0, hz1, hz2⟩ := info_parts byteInfo
  obtain ⟨wa, hwa⟩ : ∃ wa, w.alloc (.cells #[.int .i64 1, S n, .int .i64 p, .slice A 0 c] 39) = wa := ⟨_, rfl⟩
  have ba : Below w.heap.size w wa := by rw [← hwa]; exact (Below.refl _ _).alloc (Nat.le_refl _) _
  have qa : wa.heap[w.heap.size]? = some (.cells #[.int .i64 1, S n, .int .i64 p, .slice A 0 c] 39 (0, 0)) := by rw [← hwa]; exact heap_alloc_new _ _
  obtain ⟨x0, x1, x2, x3⟩ := cells4 qa
  have H0 : Hid (BS w0 w w.heap.size #[.int .i64 1, S n, .int .i64 p, .slice A 0 c] acc wa vb) := Lib.hid ⟨own_below hown ba, KeptU.new ba, hb0.trans (ba.mono hb0.size), qa⟩
  have HIN := Lib.hid (rIn_any q n Aq cq wa hql (hq.below H0.out.bel))
  obtain ⟨Al, cl, rfl⟩ := own_form hown
  have hsz0 := H0.out.bel.size
  clear qa ba hv hown hb0 hA hq
  rw [decide_eq_true hnq] at HIN
  have hlm : acc.length + 1 ≤ maxLen := by unfold maxLen; omega
  have hlb : (acc.length + 1) * 1 ≤ 140737488355328 := by omega
  have hlm2 : (acc ++ [40]).length + (⟨n.toArray⟩ : ByteArray).size ≤ maxLen := by rw [bsize]; simp only [List.length_append, List.length_singleton]; unfold maxLen; omega
  have hlb2 : (acc ++ [40]).length + (⟨n.toArray⟩ : ByteArray).size ≤ 140737488355328 := by rw [bsize]; simp only [List.length_append, List.length_singleton]; omega
  have hlm3 : (acc ++ [40] ++ n).length + 1 ≤ maxLen := by simp only [List.length_append, List.length_singleton]; unfold maxLen; omega
  have hlb3 : ((acc ++ [40] ++ n).length + 1) * 1 ≤ 140737488355328 := by simp only [List.length_append, List.length_singleton]; omega
  have SC := Lib.hid (fun (wx : World) (vx : Value) (ax : List UInt8) (h : BS w0 w w.heap.size #[.int .i64 1, S n, .int .i64 p, .slice A 0 c] ax wx vx) => show wx.cell? ⟨w.heap.size, 1, none⟩ = some (S n) from Lib.cell_of_heap h.box 1)
  clear htx hnq
  go_enter Tryd.func39, Tryd.ntmps39
  go_upto_region 1 with fail
  clear hwa
  go_wp2_with fail
  refine HIN.out.mono ?_
  rintro e w2 ⟨rfl, hw2⟩
  obtain rfl := hw2
  go_wp2_with fail
  go_region_held3 (fun w' => w'.cell? ⟨w.heap.size, 1, none⟩ = some (S n))
      (first | exact SC.out _ _ _ (H0.out.new (Below.refl _ _).drew) | exact SC.out _ _ _ (H0.out.new (((Below.refl _ _).alloc (Nat.le_refl _) _)).drew) | exact SC.out _ _ _ ((H0.out.new ((Below.refl _ _).alloc (Nat.le_refl _) _)).new (((Below.refl _ _).alloc (Nat.le_refl _) _)).drew) | exact SC.out _ _ _ (H1.out) | exact SC.out _ _ _ (H1.out.bs) | exact SC.out _ _ _ (H1.out.new ((Below.refl _ _).alloc (Nat.le_refl _) _)) | exact SC.out _ _ _ (H2.out) | exact SC.out _ _ _ (H2.out.1) | exact SC.out _ _ _ (H2.out.new ((Below.refl _ _).alloc (Nat.le_refl _) _)) | exact SC.out _ _ _ (H3.out))
      (first
        | (refine step_append_own_at _ (by rfl) _ _ 74 (by rfl) w0.heap.size 5 i0 (.int .u8 0) 1 1 Tryd.underlying74 hi0 hz0 hz1 hz2 rfl (by decide) _ _ _ (by rfl) ((H0.out.own.alloc _).drew) ⟨wa.heap.size, 0, none⟩ 1 1 [.int .u8 40] (by rfl) (by rfl) (fun j u h => cell_one_new wa _ 5 j u h) (byte_one 40) hlm hlb (alloc_le hsz0) ?_; intro v1 w1 hown1 hg1 hloc1; have H1 := Lib.hid ((H0.out.new ((((Below.refl _ _).alloc (Nat.le_refl _) _)).drew)).push (bs := [40]) hown1 hg1))
        | (refine step_append_own_at _ (by rfl) _ _ 74 (by rfl) w0.heap.size 5 i0 (.int .u8 0) 1 1 Tryd.underlying74 hi0 hz0 hz1 hz2 rfl (by decide) _ _ _ (by rfl) (((H0.out.own.alloc _).alloc _).drew) ⟨wa.heap.size, 0, none⟩ 1 1 [.int .u8 40] (by rfl) (by rfl) (fun j u h => one_cell (heap_alloc_old _ _ _ _ (heap_alloc_new wa _)) j u h) (byte_one 40) hlm hlb (alloc_le (alloc_le hsz0)) ?_; intro v1 w1 hown1 hg1 hloc1; have H1 := Lib.hid ((((H0.out.new ((Below.refl _ _).alloc (Nat.le_refl _) _)).q41 (wa.heap.size + 1) (by simp)).new (Below.refl _ _).drew).push (bs := [40]) hown1 hg1 hloc1))
        | (refine step_append_own_at _ (by rfl) _ _ 74 (by rfl) w0.heap.size 5 i0 (.int .u8 0) 1 1 Tryd.underlying74 hi0 hz0 hz1 hz2 rfl (by decide) _ _ _ (by rfl) (((H0.out.own.alloc _).alloc _).drew) ⟨wa.heap.size + 1, 0, none⟩ 1 1 [.int .u8 40] (by rfl) (by rfl) (fun j u h => cells_new (wa.alloc (.cells #[.int .u8 41] 5)) _ (by simp) [.int .u8 40] 5 j u h) (byte_one 40) hlm hlb (alloc_le (alloc_le hsz0)) ?_; intro v1 w1 hown1 hg1 hloc1; have H1 := Lib.hid ((((H0.out.q41 wa.heap.size rfl).new ((Below.refl _ _).alloc (Nat.le_refl _) _)).new (Below.refl _ _).drew).push (bs := [40]) hown1 hg1 hloc1))
        | (refine step_append_strB _ (by rfl) _ _ 74 9 (by rfl) w0.heap.size 5 i0 Tryd.underlying74 Tryd.underlying9 hi0 hz0 hz1 hz2 _ _ _ (by rfl) H1.out.own ⟨n.toArray⟩ (by rfl) hlm2 hlb2 H1.out.bel.size ?_; intro v2 w2 hown2 hg2; have H2 := Lib.hid (H1.out.pushS hown2 hg2))
        | (refine step_append_strB _ (by rfl) _ _ 74 9 (by rfl) w0.heap.size 5 i0 Tryd.underlying74 Tryd.underlying9 hi0 hz0 hz1 hz2 _ _ _ (by rfl) (H1.out.own.alloc _) ⟨n.toArray⟩ (by rfl) hlm2 hlb2 (alloc_le H1.out.bel.size) ?_; intro v2 w2 hown2 hg2; have H2 := Lib.hid ((H1.out.q41 w1.heap.size rfl).pushS hown2 hg2))
        | (refine step_append_strB _ (by rfl) _ _ 74 9 (by rfl) w0.heap.size 5 i0 Tryd.underlying74 Tryd.underlying9 hi0 hz0 hz1 hz2 _ _ _ (by rfl) H1.out.bs.own ⟨n.toArray⟩ (by rfl) hlm2 hlb2 H1.out.bs.bel.size ?_; intro v2 w2 hown2 hg2; have H2 := Lib.hid (H1.out.pushS hown2 hg2))
        | (refine step_append_own_at _ (by rfl) _ _ 74 (by rfl) w0.heap.size 5 i0 (.int .u8 0) 1 1 Tryd.underlying74 hi0 hz0 hz1 hz2 rfl (by decide) _ _ _ (by rfl) (H2.out.own.alloc _) ⟨w2.heap.size, 0, none⟩ 1 1 [.int .u8 41] (by rfl) (by rfl) (fun j u h => cell_one_new w2 _ 5 j u h) (byte_one 41) hlm3 hlb3 (alloc_le H2.out.bel.size) ?_; intro v3 w3 hown3 hg3 hloc3; have H3 := Lib.hid ((H2.out.new ((Below.refl _ _).alloc (Nat.le_refl _) _)).push (bs := [41]) hown3 hg3))
        | (refine step_append_own_at _ (by rfl) _ _ 74 (by rfl) w0.heap.size 5 i0 (.int .u8 0) 1 1 Tryd.underlying74 hi0 hz0 hz1 hz2 rfl (by decide) _ _ _ (by rfl) H2.out.1.own _ 1 1 [.int .u8 41] (by rfl) (by rfl) (fun j u h => one_cell H2.out.2 j u h) (byte_one 41) hlm3 hlb3 H2.out.1.bel.size ?_; intro v3 w3 hown3 hg3 hloc3; have H3 := Lib.hid (H2.out.1.push (bs := [41]) hown3 hg3)))
  all_goals
    go_wp2_with fail
    go_ret
    refine ⟨_, rfl, ?_, H3.out.kept, H3.out.bel⟩
    have := H3.out.own
    rw [List.append_assoc, List.append_assoc, ← List.append_assoc [40]] at this
    exact this

theorem rfmt_upto (w0 : World) (q : List (List UInt8)) (Aq : Option Addr) (cq : Nat) (hq : NamesAt w0 Aq q) (hql : q.length ≤ 1000000000) (m : Nat) : RFmtUpto w0 q Aq cq m := by
  induction m with
  | zero => intro t v w acc vb h; have := t.size_pos; omega
  | succ m ih =>
    intro t v w acc vb hsz hform hv hb0 hown hl
    obtain ⟨k, n, p, ts⟩ := t
    simp only [Lfc.Raw.size] at hsz
    rw [Lfc.Raw.form, Bool.and_eq_true] at hform
    obtain ⟨hfd, hfs⟩ := hform
    have hk := formed_cases hfd
    by_cases h1 : k = 1 ∨ k = 2 ∨ k = 3 ∨ k = 4
    · have : ts = [] := List.length_eq_zero_iff.1 (by omega)
      subst this
      by_cases hn : k = 1 ∧ n ∈ q
      · obtain ⟨rfl, hn⟩ := hn
        exact rfmt_quoted w0 q Aq cq hq hql p n hn v w acc vb hv hb0 hown hl
      · refine rfmt_leaf w0 q Aq cq hq hql k p n ?_ v w acc vb hv hb0 hown hl
        rcases h1 with rfl | h1
        · exact .inl ⟨rfl, fun h => hn ⟨rfl, h⟩⟩
        · exact .inr h1
    by_cases h2 : k = 7 ∨ k = 8
    · match ts, (show ts.length = 1 ∨ ts.length = 2 by omega) with
      | [a], _ =>
        rcases h2 with rfl | rfl
        · exact rfmt_b1k7 w0 q Aq cq m ih p n a (by omega) hfs v w acc vb hv hb0 hown hl
        · exact rfmt_b1k8 w0 q Aq cq m ih p n a (by omega) hfs v w acc vb hv hb0 hown hl
      | [a, a'], _ =>
        rcases h2 with rfl | rfl
        · exact rfmt_b2k7 w0 q Aq cq m ih p n a a' (by omega) hfs v w acc vb hv hb0 hown hl
        · exact rfmt_b2k8 w0 q Aq cq m ih p n a a' (by omega) hfs v w acc vb hv hb0 hown hl
      | [], h0 => simp at h0
      | _ :: _ :: _ :: _, h0 => simp at h0
    match ts, (show ts.length = 2 by omega) with
    | [a, a'], _ =>
      simp only [Lfc.Raw.sizes, Nat.add_zero] at hsz
      simp only [Lfc.Raw.forms, Bool.and_true, Bool.and_eq_true] at hfs
      exact rfmt_two w0 q Aq cq m ih k p n (by omega) a a' (by omega) hfs.1 hfs.2 v w acc vb hv hb0 hown hl
    | [], h0 => simp at h0
    | [_], h0 => simp at h0
    | _ :: _ :: _ :: _, h0 => simp at h0

set_option maxRecDepth 100000 in
set_option maxHeartbeats 2000000 in
theorem rFormat_any (t : Lfc.Raw) (v : Value) (q : List (List UInt8)) (Aq : Option Addr) (cq : Nat) (w : World) (hmax : t.size ≤ 1000000000) (hv : TreeV w t v) (hql : q.length ≤ 1000000000) (hq : NamesAt w Aq q) :
    Calls Tryd.prog 20 #[v, .slice Aq q.length cq] w fun e w' => e = .returned (S (t.fmt q)) ∧ Below w.heap.size w w' := by
  have hshort := hv.short
  obtain ⟨A, c, kd, nm, ps, ts, hT, rfl, hc, hA⟩ : ∃ A c kd nm ps ts, t = .node kd nm ps ts ∧ v = .agg #[.int .i64 kd, S nm, .int .i64 ps, .slice A ts.length c] ∧ ts.length ≤ c ∧ TreesAt w A ts := by
    obtain ⟨kd, nm, ps, ts⟩ := t
    obtain ⟨A, c, rfl, hc, hA⟩ := hv.open_
    exact ⟨A, c, kd, nm, ps, ts, rfl, rfl, hc, hA⟩
  clear hT hA
  obtain ⟨w1, hw1⟩ : ∃ w1, w.alloc (.cells #[.int .i64 kd, S nm, .int .i64 ps, .slice A ts.length c] 39) = w1 := ⟨_, rfl⟩
  have b01 : Below w.heap.size w w1 := by rw [← hw1]; exact (Below.refl _ _).alloc (Nat.le_refl _) _
  have s1 := eq2 (show w1.heap.size = w.heap.size + 1 by rw [← hw1]; simp)
  have q1 : w1.heap[w.heap.size]? = some (.cells #[.int .i64 kd, S nm, .int .i64 ps, .slice A ts.length c] 39 (0, 0)) := by rw [← hw1]; exact heap_alloc_new _ _
  obtain ⟨y0, y1, y2, y3⟩ := cells4 q1
  have Q1 := Lib.hid q1
  have HV := Lib.hid (hv.below b01)
  have HQ := Lib.hid (hq.below b01)
  have HWF := Lib.hid (rWf_any t _ w1 hmax HV.out)
  clear hv q1 hq
  by_cases hz : t.wf = 0
  · have hf : t.fmt q = t.text q := if_pos hz
    rw [hf]
    rw [hz] at HWF
    obtain ⟨hfm, hsz, _⟩ := Lfc.wf_zero hz
    have hlen := Lfc.text_len q 1000000 t hshort
    have hlen2 : t.size * (1000000 + 20) ≤ 4096 * 1000020 := Nat.mul_le_mul_right _ hsz
    clear hf hz
    go_enter Tryd.func20, Tryd.ntmps20
    go_upto_region 1 with fail
    clear hw1
    go_wp2_with fail
    refine HWF.out.mono ?_
    rintro e w2 ⟨rfl, hb2⟩
    have hs2 := hb2.size
    obtain ⟨z0, z1, z2, z3⟩ := cells4 ((hb2.block _ (by omega)).trans Q1.out)
    have HF := Lib.hid (show Calls Tryd.prog 39 #[.slice none 0 0, .agg #[.int .i64 kd, S nm, .int .i64 ps, .slice A ts.length c], .slice Aq q.length cq] w2 _ from rfmt_upto w2 q Aq cq (HQ.out.below hb2) hql t.size t _ w2 [] (.slice none 0 0) (Nat.le_refl _) hfm (HV.out.below hb2) (Below.refl _ _) (own_nil _ _ _ _) (by simp only [List.length_nil]; omega))
    clear y0 y1 y2 y3
    go_wp2_with fail
    refine HF.out.mono ?_
    rintro e w5 ⟨v5, rfl, hown5, hg5, hb5⟩
    rw [List.nil_append] at hown5
    obtain ⟨A5, c5, rfl⟩ := own_form hown5
    have HB5 := Lib.hid hb5
    generalize hTX : t.text q = TX at *
    have hconv := own_string Tryd.underlying74 Tryd.underlying5 Tryd.underlying9 hown5
    have HTX := Lib.hid hTX
    clear hown5 hg5 hb5 hTX
    go_wp2_with fail
    go_ret
    exact ⟨by rw [HTX.out]; rfl, b01.trans ((hb2.mono (by omega)).trans (HB5.out.mono (by omega)))⟩
  · have hf : t.fmt q = [] := if_neg hz
    rw [hf]
    have hg : (t.wf != 0) = true := by simpa using hz
    generalize t.wf = f at *
    clear hf hz
    go_enter Tryd.func20, Tryd.ntmps20
    go_upto_region 1 with fail
    clear hw1
    go_wp2_with fail
    refine HWF.out.mono ?_
    rintro e w2 ⟨rfl, hb2⟩
    go_wp2_with fail
    go_ret
    exact ⟨rfl, b01.trans (hb2.mono (by omega))⟩
end Go.Proofs.YtkhfnkokdmoipaaDoor
