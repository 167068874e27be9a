/- Contracts of Format's closures. -/
import Derived.Test.YtmdhkcefbkdkbaaDoorRawWf2
import Derived.Test.YtmdhkcefbkdkbaaDoorRawText
import Derived.Test.YtmdhkcefbkdkbaaDoorRawNames
import Derived.Test.YtmdhkcefbkdkbaaDoorBuild
import Derived.StillTailTactics
set_option linter.unusedVariables false
set_option linter.unusedSimpArgs false
namespace Go.Proofs.YtmdhkcefbkdkbaaDoor
open Go.RowKit

def P (b : Nat) : Value := .pointer (some ⟨b, 0, none⟩)
theorem enters_two : ∀ args w, (callFunc 56 args).run Tryd.prog w = .ok (.enter 56 args) w := enters_of Tryd.func56 (by kernel_rfl) rfl
theorem enters_binder : ∀ args w, (callFunc 58 args).run Tryd.prog w = .ok (.enter 58 args) w := enters_of Tryd.func58 (by kernel_rfl) rfl
theorem enters_write : ∀ args w, (callFunc 59 args).run Tryd.prog w = .ok (.enter 59 args) w := enters_of Tryd.func59 (by kernel_rfl) rfl

/-- The variables of Format, behind the builder b that lies just behind w0. -/
structure EnvF (w0 : World) (b Bq : Nat) (w : World) : Prop where
  at_ : b = w0.heap.size
  bel : Below w0.heap.size w0 w
  wr : w.heap[b + 1]? = some (.cells #[.func (.func 59) #[] #[.pointer (some ⟨Bq, 0, none⟩), .pointer (some ⟨b, 0, none⟩), .pointer (some ⟨b + 2, 0, none⟩), .pointer (some ⟨b + 3, 0, none⟩)]] 53 (0, 0))
  tw : w.heap[b + 2]? = some (.cells #[.func (.func 56) #[] #[.pointer (some ⟨b, 0, none⟩), .pointer (some ⟨b + 1, 0, none⟩)]] 75 (0, 0))
  bi : w.heap[b + 3]? = some (.cells #[.func (.func 58) #[] #[.pointer (some ⟨b, 0, none⟩), .pointer (some ⟨b + 2, 0, none⟩)]] 76 (0, 0))
theorem EnvF.next {w0 w w' : World} {b Bq : Nat} (h : EnvF w0 b Bq w) (hb : Below b w w') (hk : Kept b w w') : EnvF w0 b Bq w' :=
  ⟨h.at_, h.bel.trans (by rw [← h.at_]; exact hb), hk.cells h.wr (by omega) (by decide), hk.cells h.tw (by omega) (by decide), hk.cells h.bi (by omega) (by decide)⟩

/-- A frame of a closure of Format: its tree lies in R. -/
structure StF (w0 : World) (b Bq : Nat) (w : World) (R : Nat) (box : Array Value) (acc : List UInt8) (w' : World) : Prop where
  bld : Bld b b acc w'
  env : EnvF w0 b Bq w'
  box : w'.heap[R]? = some (.cells box 42 (0, 0))
  bel : Below b w w'
  kept : Kept b w w'
  ne : R ≠ b
  le : b ≤ w'.heap.size
theorem StF.next {w0 w w1 w2 : World} {b Bq R : Nat} {box : Array Value} {acc acc' : List UInt8} (h : StF w0 b Bq w R box acc w1) (hd : Bld b b acc' w2) (hb : Below b w1 w2) (hk : Kept b w1 w2) : StF w0 b Bq w R box acc' w2 :=
  ⟨hd, h.env.next hb hk, hk.cells h.box h.ne (by decide), h.bel.trans hb, h.kept.trans hk, h.ne, Nat.le_trans h.le hb.size⟩
theorem Bld.lt {B b : Nat} {l : List UInt8} {w : World} (h : Bld B b l w) : b < w.heap.size := by
  rcases h with ⟨_, v, hv, _⟩ | ⟨_, v, hv, _⟩
  · exact lt_of_block hv
  · exact lt_of_block hv
theorem Bld.alloc {B b : Nat} {l : List UInt8} {w : World} (h : Bld B b l w) (o : Obj) : Bld B b l (w.alloc o) := Lib.IsBuilderF.alloc h o
theorem Bld.drew {B b : Nat} {l : List UInt8} {w : World} (h : Bld B b l w) : Bld B b l w.drew := h
theorem StF.start {w0 w : World} {b Bq : Nat} {acc : List UInt8} (box : Array Value) (hd : Bld b b acc w) (he : EnvF w0 b Bq w) : StF w0 b Bq w w.heap.size box acc (w.alloc (.cells box 42)) := by
  have hlt := hd.lt
  have hb : Below b w (w.alloc (.cells box 42)) := (Below.refl _ _).alloc (by omega) _
  have hk : Kept b w (w.alloc (.cells box 42)) := (Lib.OthersKept.refl _ _ w).alloc _
  exact ⟨hd.alloc _, he.next hb hk, heap_alloc_new w _, hb, hk, by omega, by simp; omega⟩
theorem StF.drew {w0 w w1 : World} {b Bq R : Nat} {box : Array Value} {acc : List UInt8} (h : StF w0 b Bq w R box acc w1) : StF w0 b Bq w R box acc w1.drew :=
  h.next h.bld.drew (Below.refl _ _).drew (Lib.OthersKept.refl _ _ w1).drew

/-- What write does at trees of at most so many nodes. -/
def WriteUpto (w0 : World) (b Bq : Nat) (q : List (List UInt8)) (m : Nat) : Prop := ∀ (t : Lfc.Raw) (v : Value) (w : World) (acc : List UInt8), t.size ≤ m → t.form = true → TreeV w0 t v → EnvF w0 b Bq w → Bld b b acc w → acc.length + (t.text q).length ≤ 140737488355328 →
    Calls Tryd.prog 59 #[v, .pointer (some ⟨Bq, 0, none⟩), .pointer (some ⟨b, 0, none⟩), .pointer (some ⟨b + 2, 0, none⟩), .pointer (some ⟨b + 3, 0, none⟩)] w fun e w' => e = .returned (.tuple #[]) ∧ Bld b b (acc ++ t.text q) w' ∧ Below b w w' ∧ Kept b w w'

set_option maxRecDepth 100000 in
set_option maxHeartbeats 2000000 in
theorem two_any (w0 : World) (b Bq : Nat) (q : List (List UInt8)) (m : Nat) (ih : WriteUpto w0 b Bq q m) (k p : Int) (n : List UInt8) (ts : List Lfc.Raw) (v : Value) (w : World) (acc o mid en : List UInt8)
    (hsz : Lfc.Raw.sizes ts ≤ m) (hf : Lfc.Raw.forms ts = true) (hl : ts.length = 1 ∨ ts.length = 2) (hv : TreeV w0 (.node k n p ts) v) (henv : EnvF w0 b Bq w) (hbld : Bld b b acc w) (hbd : acc.length + (Lfc.twoText o mid en (Lfc.Raw.texts q ts)).length ≤ 140737488355328) :
    Calls Tryd.prog 56 #[v, S o, S mid, S en, .pointer (some ⟨b, 0, none⟩), .pointer (some ⟨b + 1, 0, none⟩)] w fun e w' => e = .returned (.tuple #[]) ∧ Bld b b (acc ++ Lfc.twoText o mid en (Lfc.Raw.texts q ts)) w' ∧ Below b w w' ∧ Kept b w w' := by
  have he := enters_write
  obtain ⟨A, c, rfl, hc, hA⟩ := hv.open_
  have IH := Lib.hid ih
  have s0 := StF.start #[.int .i64 k, S n, .int .i64 p, .slice A ts.length c] hbld henv
  clear ih hv henv hbld
  match ts, hl with
  | [a], _ =>
    simp only [Lfc.Raw.texts, Lfc.twoText, Lfc.Raw.sizes, Lfc.Raw.forms, Bool.and_true, List.length_append, List.length_singleton, Nat.add_zero] at *
    obtain ⟨B, O, k1, n1, p1, xs, B1, c1, rfl, hb, ht, d0, d1, d2, d3, hcu, hB, hT⟩ := hA.at_ (i := 0) (by simp)
    simp only [List.getElem_cons_zero, Nat.zero_mul, Nat.add_zero] at hT ht d0 d1 d2 d3
    clear ht hB hA
    have H0 := Lib.hid s0
    clear s0
    go_enter Tryd.func56, Tryd.ntmps56
    go_wp2_with fail
    refine (writeString_any b b acc o _ H0.out.bld (by omega) H0.out.le).mono ?_
    rintro e w1 ⟨rfl, h1, hb1, hk1⟩
    have H1 := Lib.hid (H0.out.next h1 hb1 hk1)
    clear h1 hb1 hk1
    have hRf := Lib.cell_of_heap H1.out.box 3
    have hWf := cell_of_one H1.out.env.wr
    have f0 := (H1.out.env.bel.cell (p := ⟨B, _, none⟩) hb).trans d0
    have f1 := (H1.out.env.bel.cell (p := ⟨B, _, none⟩) hb).trans d1
    have f2 := (H1.out.env.bel.cell (p := ⟨B, _, none⟩) hb).trans d2
    have f3 := (H1.out.env.bel.cell (p := ⟨B, _, none⟩) hb).trans d3
    go_wp2_with fail
    have hzw1 : IntKind.i64.wrap 0 = 0 := by decide
    refine wp_region_still_tail 9 (by kernel_rfl) (by kernel_rfl) ?_
    simp only [List.take_succ_cons, List.take_zero, List.drop_succ_cons, List.drop_zero]
    change wpStill Tryd.prog _ w1.drew _ _ _
    repeat still_step
    try refine wpStill_nil ?_
    change wpList _ _ _ _ _ w1.drew
    go_wp2_with fail
    refine (IH.out a _ w1.drew (acc ++ o) hsz hf hT H1.out.drew.env H1.out.drew.bld (by simp only [List.length_append]; omega)).mono ?_
    rintro e w2 ⟨rfl, h2, hb2, hk2⟩
    have H2 := Lib.hid (H1.out.drew.next h2 hb2 hk2)
    clear h2 hb2 hk2
    go_wp2_with fail
    refine (writeString_any b b _ en _ H2.out.bld (by simp only [List.length_append]; omega) H2.out.le).mono ?_
    rintro e w3 ⟨rfl, h3, hb3, hk3⟩
    have H3 := Lib.hid (H2.out.next h3 hb3 hk3)
    clear h3 hb3 hk3
    go_wp2_with fail
    go_end0
    exact ⟨rfl, by simpa [List.append_assoc] using H3.out.bld, H3.out.bel, H3.out.kept⟩
  | [a, a'], _ =>
    simp only [Lfc.Raw.texts, Lfc.twoText, Lfc.Raw.sizes, Lfc.Raw.forms, Bool.and_true, Bool.and_eq_true, List.length_append, List.length_cons, List.length_nil, Nat.zero_add, Nat.reduceAdd, Nat.add_zero] at *
    obtain ⟨hfa, hfa'⟩ := hf
    obtain ⟨B, O, k1, n1, p1, xs, B1, c1, rfl, hb, ht, d0, d1, d2, d3, hcu, hB, hT⟩ := hA.at_ (i := 0) (by simp)
    obtain ⟨B', O', k2, n2, p2, ys, B2, c2, hBO, hb', ht', e0, e1, e2, e3, hcu', hB', hT'⟩ := hA.at_ (i := 1) (by simp)
    simp only [List.getElem_cons_zero, List.getElem_cons_succ, Nat.zero_mul, Nat.one_mul, Nat.add_zero] at hT ht d0 d1 d2 d3 hT' ht' e0 e1 e2 e3
    cases hBO
    clear ht hB hA ht' hB' hb'
    have H0 := Lib.hid s0
    clear s0
    go_enter Tryd.func56, Tryd.ntmps56
    go_wp2_with fail
    refine (writeString_any b b acc o _ H0.out.bld (by omega) H0.out.le).mono ?_
    rintro e w1 ⟨rfl, h1, hb1, hk1⟩
    have H1 := Lib.hid (H0.out.next h1 hb1 hk1)
    clear h1 hb1 hk1
    have hRf := Lib.cell_of_heap H1.out.box 3
    have hWf := cell_of_one H1.out.env.wr
    have f0 := (H1.out.env.bel.cell (p := ⟨B, _, none⟩) hb).trans d0
    have f1 := (H1.out.env.bel.cell (p := ⟨B, _, none⟩) hb).trans d1
    have f2 := (H1.out.env.bel.cell (p := ⟨B, _, none⟩) hb).trans d2
    have f3 := (H1.out.env.bel.cell (p := ⟨B, _, none⟩) hb).trans d3
    go_wp2_with fail
    have hzw1 : IntKind.i64.wrap 0 = 0 := by decide
    refine wp_region_still_tail 5 (by kernel_rfl) (by kernel_rfl) ?_
    simp only [List.take_succ_cons, List.take_zero, List.drop_succ_cons, List.drop_zero]
    change wpStill Tryd.prog _ w1.drew _ _ _
    repeat still_step
    try refine wpStill_nil ?_
    change wpList _ _ _ _ _ w1.drew
    go_wp2_with fail
    refine (IH.out a _ w1.drew (acc ++ o) (by omega) hfa hT H1.out.drew.env H1.out.drew.bld (by simp only [List.length_append]; omega)).mono ?_
    rintro e w2 ⟨rfl, h2, hb2, hk2⟩
    have H2 := Lib.hid (H1.out.drew.next h2 hb2 hk2)
    clear h2 hb2 hk2
    go_wp2_with fail
    refine (writeString_any b b _ mid _ H2.out.bld (by simp only [List.length_append]; omega) H2.out.le).mono ?_
    rintro e w3 ⟨rfl, h3, hb3, hk3⟩
    have H3 := Lib.hid (H2.out.next h3 hb3 hk3)
    clear h3 hb3 hk3
    have hRg := Lib.cell_of_heap H3.out.box 3
    have hWg := cell_of_one H3.out.env.wr
    have g0 := (H3.out.env.bel.cell (p := ⟨B, _, none⟩) hb).trans e0
    have g1 := (H3.out.env.bel.cell (p := ⟨B, _, none⟩) hb).trans e1
    have g2 := (H3.out.env.bel.cell (p := ⟨B, _, none⟩) hb).trans e2
    have g3 := (H3.out.env.bel.cell (p := ⟨B, _, none⟩) hb).trans e3
    go_wp2_with fail
    have hzw3 : IntKind.i64.wrap 1 = 1 := by decide
    refine wp_region_still_tail 9 (by kernel_rfl) (by kernel_rfl) ?_
    simp only [List.take_succ_cons, List.take_zero, List.drop_succ_cons, List.drop_zero]
    change wpStill Tryd.prog _ w3.drew _ _ _
    repeat still_step
    try refine wpStill_nil ?_
    change wpList _ _ _ _ _ w3.drew
    go_wp2_with fail
    refine (IH.out a' _ w3.drew _ (by omega) hfa' hT' H3.out.drew.env H3.out.drew.bld (by simp only [List.length_append]; omega)).mono ?_
    rintro e w4 ⟨rfl, h4, hb4, hk4⟩
    have H4 := Lib.hid (H3.out.drew.next h4 hb4 hk4)
    clear h4 hb4 hk4
    go_wp2_with fail
    refine (writeString_any b b _ en _ H4.out.bld (by simp only [List.length_append]; omega) H4.out.le).mono ?_
    rintro e w5 ⟨rfl, h5, hb5, hk5⟩
    have H5 := Lib.hid (H4.out.next h5 hb5 hk5)
    clear h5 hb5 hk5
    go_wp2_with fail
    go_end0
    exact ⟨rfl, by simpa [List.append_assoc] using H5.out.bld, H5.out.bel, H5.out.kept⟩
  | [], h => simp at h
  | _ :: _ :: _ :: _, h => simp at h
end Go.Proofs.YtmdhkcefbkdkbaaDoor
