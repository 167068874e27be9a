/- Parts of the proof that no input makes the law false: OrMem, PaItm, PaMb, PaFmd, PaFn, PaApp. -/
import Derived.Laws.EntriesVeiled
import Derived.Laws.StructEq
import Derived.Deep.MidRow
import Derived.Test.YthajalgkjonaaaaGreatDoorPxA
import Derived.Test.YthajalgkjonaaaaGreatDoorPxB
import Derived.Test.YthajalgkjonaaaaGreatDoorPxE
import Derived.Test.YthajalgkjonaaaaGreatDoorPxO
set_option linter.unusedVariables false
set_option linter.unusedSimpArgs false
namespace Go.Proofs.YthajalgkjonaaaaGreatDoor
open Go.RowKit
mutual
def OrdC (w : World) : Lfc.Ord → Value → Value → Value → Prop
 | .node k a ts, v0, v1, v2 => v0 = .int .i64 k ∧ v1 = .int .i64 a ∧ ∃ A c, v2 = .slice A ts.length c ∧ ts.length ≤ c ∧ (ts ≠ [] → ∃ b o, A = some ⟨b, o, none⟩ ∧ b < w.heap.size ∧ OrdsO w b ts o)
def OrdsO (w : World) (b : Nat) : List Lfc.Ord → Nat → Prop
 | [], _ => True
 | t :: r, o => (∃ v0 v1 v2, w.cell? ⟨b, o, none⟩ = some v0 ∧ w.cell? ⟨b, o + 1, none⟩ = some v1 ∧ w.cell? ⟨b, o + 2, none⟩ = some v2 ∧ OrdC w t v0 v1 v2) ∧ OrdsO w b r (o + 3)
end
mutual
theorem OrdC.below {w w' : World} (hb : Below w.heap.size w w') : ∀ (t : Lfc.Ord) (v0 v1 v2 : Value), OrdC w t v0 v1 v2 → OrdC w' t v0 v1 v2
 | .node k a ts, v0, v1, v2, h => by
  rw [OrdC] at h ⊢
  obtain ⟨h0, h1, A, c, h3, h4, h5⟩ := h
  refine ⟨h0, h1, A, c, h3, h4, fun hne => ?_⟩
  obtain ⟨b, o, hA, hlt, hts⟩ := h5 hne
  exact ⟨b, o, hA, Nat.lt_of_lt_of_le hlt hb.size, OrdsO.below hb ts b o hlt hts⟩
theorem OrdsO.below {w w' : World} (hb : Below w.heap.size w w') : ∀ (ts : List Lfc.Ord) (b o : Nat), b < w.heap.size → OrdsO w b ts o → OrdsO w' b ts o
 | [], _, _, _, _ => by rw [OrdsO]; trivial
 | t :: r, b, o, hlt, h => by
  rw [OrdsO] at h ⊢
  obtain ⟨⟨v0, v1, v2, c0, c1, c2, ht⟩, hr⟩ := h
  exact ⟨⟨v0, v1, v2, (hb.cell (p := ⟨b, _, none⟩) hlt).trans c0, (hb.cell (p := ⟨b, _, none⟩) hlt).trans c1, (hb.cell (p := ⟨b, _, none⟩) hlt).trans c2, OrdC.below hb t v0 v1 v2 ht⟩, OrdsO.below hb r b (o + 3) hlt hr⟩
end
theorem OrdsO.at_ {w : World} {b : Nat} : ∀ (ts : List Lfc.Ord) (o i : Nat) (t : Lfc.Ord), OrdsO w b ts o → ts[i]? = some t →
  ∃ v0 v1 v2, w.cell? ⟨b, o + i * 3, none⟩ = some v0 ∧ w.cell? ⟨b, o + i * 3 + 1, none⟩ = some v1 ∧ w.cell? ⟨b, o + i * 3 + 2, none⟩ = some v2 ∧ OrdC w t v0 v1 v2 := by
 intro ts
 induction ts with
 | nil => intro o i t _ h; simp at h
 | cons a r ih =>
  intro o i t h hi
  rw [OrdsO] at h
  cases i with
  | zero => simp at hi; subst hi; simpa using h.1
  | succ i =>
   have := ih (o + 3) i t h.2 (by simpa using hi)
   rw [show o + (i + 1) * 3 = o + 3 + i * 3 by omega]
   exact this
def OrdV (w : World) (t : Lfc.Ord) (v : Value) : Prop := ∃ v0 v1 v2, v = .agg #[v0, v1, v2] ∧ OrdC w t v0 v1 v2
theorem OrdV.below {w w' : World} {t : Lfc.Ord} {v : Value} (h : OrdV w t v) (hb : Below w.heap.size w w') : OrdV w' t v := by
 obtain ⟨v0, v1, v2, rfl, h⟩ := h
 exact ⟨v0, v1, v2, rfl, OrdC.below hb t _ _ _ h⟩
def OrdsAt (w : World) (A : Option Addr) (ts : List Lfc.Ord) : Prop := ts ≠ [] → ∃ b o, A = some ⟨b, o, none⟩ ∧ b < w.heap.size ∧ OrdsO w b ts o
theorem OrdsAt.below {w w' : World} {A : Option Addr} {ts : List Lfc.Ord} (h : OrdsAt w A ts) (hb : Below w.heap.size w w') : OrdsAt w' A ts := fun hne => by
 obtain ⟨b, o, hA, hlt, h⟩ := h hne
 exact ⟨b, o, hA, Nat.lt_of_lt_of_le hlt hb.size, OrdsO.below hb ts b o hlt h⟩
theorem OrdV.open_ {w : World} {k a : Int} {ts : List Lfc.Ord} {v : Value} (h : OrdV w (.node k a ts) v) : ∃ A c, v = .agg #[.int .i64 k, .int .i64 a, .slice A ts.length c] ∧ ts.length ≤ c ∧ OrdsAt w A ts := by
 obtain ⟨v0, v1, v2, rfl, h⟩ := h
 rw [OrdC] at h
 obtain ⟨rfl, rfl, A, c, rfl, hc, h⟩ := h
 exact ⟨A, c, rfl, hc, h⟩
theorem OrdV.mk {w : World} {k a : Int} {ts : List Lfc.Ord} {A : Option Addr} {c : Nat} (hc : ts.length ≤ c) (h : OrdsAt w A ts) : OrdV w (.node k a ts) (.agg #[.int .i64 k, .int .i64 a, .slice A ts.length c]) :=
 ⟨_, _, _, rfl, by rw [OrdC]; exact ⟨rfl, rfl, A, c, rfl, hc, h⟩⟩
theorem OrdsAt.at_ {w : World} {A : Option Addr} {ts : List Lfc.Ord} (h : OrdsAt w A ts) {i : Nat} (hi : i < ts.length) :
  ∃ b o k a us B c, A = some ⟨b, o, none⟩ ∧ b < w.heap.size ∧ ts[i] = .node k a us ∧ w.cell? ⟨b, o + i * 3, none⟩ = some (.int .i64 k) ∧ w.cell? ⟨b, o + i * 3 + 1, none⟩ = some (.int .i64 a) ∧ w.cell? ⟨b, o + i * 3 + 2, none⟩ = some (.slice B us.length c) ∧
   us.length ≤ c ∧ OrdsAt w B us ∧ OrdV w ts[i] (.agg #[.int .i64 k, .int .i64 a, .slice B us.length c]) := by
 obtain ⟨b, o, hA, hlt, hts⟩ := h (by intro h0; rw [h0] at hi; simp at hi)
 obtain ⟨v0, v1, v2, c0, c1, c2, ht⟩ := OrdsO.at_ ts o i ts[i] hts (List.getElem?_eq_getElem hi)
 cases ht' : ts[i] with
 | node k a us =>
  rw [ht'] at ht
  have htv : OrdV w (.node k a us) (.agg #[v0, v1, v2]) := ⟨v0, v1, v2, rfl, ht⟩
  rw [OrdC] at ht
  obtain ⟨rfl, rfl, B, c, rfl, hc, hB⟩ := ht
  exact ⟨b, o, k, a, us, B, c, hA, hlt, rfl, c0, c1, c2, hc, hB, htv⟩
end Go.Proofs.YthajalgkjonaaaaGreatDoor
namespace Go.Proofs.YthajalgkjonaaaaGreatDoor
open Go.RowKit
def Stays (q : Nat → Prop) (w : World) (F : World → Prop) : Prop := ∀ w', w.heap.size ≤ w'.heap.size → (∀ b, q b → b < w.heap.size → w'.heap[b]? = w.heap[b]?) → F w'
theorem Stays.here {q : Nat → Prop} {w : World} {F : World → Prop} (h : Stays q w F) : F w := h w (Nat.le_refl _) fun _ _ _ => rfl
theorem Stays.to {q q' : Nat → Prop} {w w' : World} {F : World → Prop} (h : Stays q w F) (hs : w.heap.size ≤ w'.heap.size) (hk : ∀ b, q b → b < w.heap.size → w'.heap[b]? = w.heap[b]?) (hq : ∀ b, b < w.heap.size → q b → q' b) : Stays q' w' F := fun w2 h1 h2 =>
 h w2 (Nat.le_trans hs h1) fun b hb hlt => (h2 b (hq b hlt hb) (Nat.lt_of_lt_of_le hlt hs)).trans (hk b hb hlt)
theorem Stays.imp {q : Nat → Prop} {w : World} {F F' : World → Prop} (h : Stays q w F) (hi : ∀ W, F W → F' W) : Stays q w F' := fun w' h1 h2 => hi _ (h w' h1 h2)
theorem Stays.and {q : Nat → Prop} {w : World} {F F' : World → Prop} (h : Stays q w F) (h' : Stays q w F') : Stays q w fun W => F W ∧ F' W := fun w' h1 h2 => ⟨h w' h1 h2, h' w' h1 h2⟩
theorem Stays.all {q : Nat → Prop} {w : World} {F : World → Prop} (h : ∀ W, F W) : Stays q w F := fun w' _ _ => h w'
theorem Stays.oth2 {lo P I : Nat} {w w' : World} {F : World → Prop} (h : Stays (fun b => lo ≤ b) w F) (o : Oth2 P I w w') (hP : P < lo) (hI : I < lo) : Stays (fun b => lo ≤ b) w' F :=
 h.to o.size (fun b hb hlt => o.block b hlt (by omega) (by omega)) fun _ _ h => h
def StrsAt (w : World) (A : Option Addr) (l : List (List UInt8)) : Prop := l ≠ [] → ∃ b o, A = some ⟨b, o, none⟩ ∧ b < w.heap.size ∧ ∀ i (h : i < l.length), w.cell? ⟨b, o + i, none⟩ = some (S l[i])
def NumsAt (w : World) (A : Option Addr) (l : List Int) : Prop := l ≠ [] → ∃ b o, A = some ⟨b, o, none⟩ ∧ b < w.heap.size ∧ ∀ i (h : i < l.length), w.cell? ⟨b, o + i, none⟩ = some (.int .i64 l[i])
def BndC (w : World) (b o : Nat) (x : Lfc.Bnd) : Prop := ∃ v0 v1 v2 v3, w.cell? ⟨b, o, none⟩ = some (S x.1) ∧ x.1.length ≤ 1000000 ∧ w.cell? ⟨b, o + 1, none⟩ = some v0 ∧ w.cell? ⟨b, o + 2, none⟩ = some v1 ∧ w.cell? ⟨b, o + 3, none⟩ = some v2 ∧ w.cell? ⟨b, o + 4, none⟩ = some v3 ∧ TreeC w x.2 v0 v1 v2 v3
def BndsAt (w : World) (A : Option Addr) (l : List Lfc.Bnd) : Prop := l ≠ [] → ∃ b o, A = some ⟨b, o, none⟩ ∧ b < w.heap.size ∧ ∀ i (h : i < l.length), BndC w b (o + i * 5) l[i]
def FOrdC (w : World) (b o : Nat) (x : List UInt8 × Lfc.Ord) : Prop := ∃ v0 v1 v2, w.cell? ⟨b, o, none⟩ = some (S x.1) ∧ x.1.length ≤ 1000000 ∧ w.cell? ⟨b, o + 1, none⟩ = some v0 ∧ w.cell? ⟨b, o + 2, none⟩ = some v1 ∧ w.cell? ⟨b, o + 3, none⟩ = some v2 ∧ OrdC w x.2 v0 v1 v2
def FOrdsAt (w : World) (A : Option Addr) (l : List (List UInt8 × Lfc.Ord)) : Prop := l ≠ [] → ∃ b o, A = some ⟨b, o, none⟩ ∧ b < w.heap.size ∧ ∀ i (h : i < l.length), FOrdC w b (o + i * 4) l[i]
end Go.Proofs.YthajalgkjonaaaaGreatDoor
namespace Lfc
def Ord.k : Ord → Int
 | .node k _ _ => k
def Ord.a : Ord → Int
 | .node _ a _ => a
def Ord.ps : Ord → List Ord
 | .node _ _ ps => ps
end Lfc
namespace Go.Proofs.YthajalgkjonaaaaGreatDoor
open Go.RowKit
structure IS where
 ty : Option Addr × Nat
 va : Option Addr × Nat
 so : Option Addr × Nat
 pa : Option Addr × Nat
 bl : Option Addr × Nat
 fa : Option Addr × Nat
 si : Option Addr × Nat
 od : Option Addr × Nat
 le : Option Addr × Nat
 ri : Option Addr × Nat
def IS.nil : IS := ⟨(none, 0), (none, 0), (none, 0), (none, 0), (none, 0), (none, 0), (none, 0), (none, 0), (none, 0), (none, 0)⟩
def itCells (x : Lfc.Itm) (s : IS) : Array Value := #[.int .i64 x.kind, .int .i64 (x.pos : Int), S x.name, .slice s.ty.1 x.type.length s.ty.2, .slice s.va.1 x.value.length s.va.2, S x.op.name, .int .i64 x.op.fix, .int .i64 x.op.prec,
 .slice s.so.1 x.som.length s.so.2, .slice s.pa.1 x.params.length s.pa.2, .slice s.bl.1 x.blocks.length s.bl.2, .slice s.fa.1 x.fams.length s.fa.2, .slice s.si.1 x.signs.length s.si.2, .slice s.od.1 x.orders.length s.od.2,
 .int .i64 x.left.k, .int .i64 x.left.a, .slice s.le.1 x.left.ps.length s.le.2, .int .i64 x.right.k, .int .i64 x.right.a, .slice s.ri.1 x.right.ps.length s.ri.2, .int .i64 x.rel, .int .i64 x.count]
structure ItV (w : World) (x : Lfc.Itm) (s : IS) : Prop where
 name : x.name.length ≤ 1000000
 opn : x.op.name.length ≤ 1000000
 ty : TreesAt w s.ty.1 x.type ∧ x.type.length ≤ s.ty.2
 va : TreesAt w s.va.1 x.value ∧ x.value.length ≤ s.va.2
 so : BndsAt w s.so.1 x.som ∧ x.som.length ≤ s.so.2
 pa : BndsAt w s.pa.1 x.params ∧ x.params.length ≤ s.pa.2
 bl : StrsAt w s.bl.1 x.blocks ∧ x.blocks.length ≤ s.bl.2
 fa : StrsAt w s.fa.1 x.fams ∧ x.fams.length ≤ s.fa.2
 si : NumsAt w s.si.1 x.signs ∧ x.signs.length ≤ s.si.2
 od : FOrdsAt w s.od.1 x.orders ∧ x.orders.length ≤ s.od.2
 le : OrdsAt w s.le.1 x.left.ps ∧ x.left.ps.length ≤ s.le.2
 ri : OrdsAt w s.ri.1 x.right.ps ∧ x.right.ps.length ≤ s.ri.2
theorem ItV.nil (w : World) (a : Nat) : ItV w (Lfc.Itm.new a) IS.nil := by
 have h0 : ∀ {α : Type} {P : Prop}, ((([] : List α) ≠ []) → P) := fun h => absurd rfl h
 refine ⟨?_, ?_, ⟨?_, ?_⟩, ⟨?_, ?_⟩, ⟨?_, ?_⟩, ⟨?_, ?_⟩, ⟨?_, ?_⟩, ⟨?_, ?_⟩, ⟨?_, ?_⟩, ⟨?_, ?_⟩, ⟨?_, ?_⟩, ⟨?_, ?_⟩⟩ <;> first | exact h0 | exact Nat.zero_le _
def ItB (w : World) (I lo : Nat) (x : Lfc.Itm) : Prop := ∃ s, w.heap[I]? = some (.cells (itCells x s) 42 (0, 0)) ∧ Stays (fun b => lo ≤ b) w fun W => ItV W x s
def Hd.off (G : Hd) (p : Lfc.PE) (J : Nat) : Prop := (p.toks ≠ [] → ∀ a, G.A = some a → a.block ≠ J) ∧ (p.ops ≠ [] → ∀ a, G.B = some a → a.block ≠ J)
theorem Hd.from.off {G : Hd} {lo J : Nat} {p : Lfc.PE} (h : G.from lo) (hJ : J < lo) : G.off p J := ⟨fun _ a e => by have := h.1 a e; omega, fun _ a e => by have := h.2 a e; omega⟩
theorem PW.off_new {w : World} {P k J : Nat} {G : Hd} {p : Lfc.PE} (h : PW w P G p k) (hJ : w.heap.size ≤ J) : G.off p J := by
 obtain ⟨_, ⟨A, c, e, h1, h2⟩, h3⟩ := h
 obtain ⟨A', c', B', d'⟩ := G
 simp only at e h3
 cases e
 refine ⟨fun hne a e => ?_, fun hne a e => ?_⟩
 ·obtain ⟨b, o, hA, hlt, _⟩ := h2 (List.length_pos_iff.2 hne)
  rw [hA] at e
  cases e
  simp only; omega
 ·obtain ⟨b, o, hA, hlt, _⟩ := h3.2 hne
  rw [hA] at e
  cases e
  simp only; omega
theorem PW.to3 {w w' : World} {P J k : Nat} {G : Hd} {p : Lfc.PE} (h : PW w P G p k) (hJ : G.off p J) {k' : Nat} (ho : Oth2 P J w w') (hc : w'.heap[P]? = some (.cells #[.slice G.A p.toks.length G.c, .int .i64 (k' : Int), .int .i64 (p.fin : Int), .slice G.B p.ops.length G.d] 96 (0, 0))) : PW w' P G p k' := by
 have hn := h.noStr
 obtain ⟨_, ⟨A, c, e, h1, h2⟩, hp, h3⟩ := h
 obtain ⟨A', c', B', d'⟩ := G
 simp only at e h2 h3
 cases e
 refine ⟨hc, ⟨_, _, rfl, h1, fun hp => ?_⟩, hp, fun hne => ?_⟩
 ·obtain ⟨b, o, hA, hlt, hcl⟩ := h2 hp
  have hbX : b ≠ J := hJ.1 (List.length_pos_iff.1 hp) _ hA
  have hbP : b ≠ P := fun e => by
   obtain ⟨_, c1, _⟩ := hcl 0 _ (List.getElem?_eq_getElem hp)
   rw [e] at c1
   exact hn _ _ c1
  have q := fun j => World.cell?_of_block (a := ⟨b, j, none⟩) (ho.block b hlt hbP hbX)
  refine ⟨b, o, hA, Nat.lt_of_lt_of_le hlt ho.size, fun i t ht => ?_⟩
  obtain ⟨c0, c1, c2⟩ := hcl i t ht
  exact ⟨(q _).trans c0, (q _).trans c1, (q _).trans c2⟩
 ·obtain ⟨b, o, hA, hlt, hcl⟩ := h3 hne
  have hbX : b ≠ J := hJ.2 hne _ hA
  have hbP : b ≠ P := fun e => by
   obtain ⟨c0, _⟩ := hcl 0 (List.length_pos_iff.2 hne)
   rw [e] at c0
   exact hn _ _ c0
  have q := fun j => World.cell?_of_block (a := ⟨b, j, none⟩) (ho.block b hlt hbP hbX)
  refine ⟨b, o, hA, Nat.lt_of_lt_of_le hlt ho.size, fun i hi => ?_⟩
  obtain ⟨c0, c1, c2⟩ := hcl i hi
  exact ⟨(q _).trans c0, (q _).trans c1, (q _).trans c2⟩
theorem Oth2.refl (a b : Nat) (w : World) : Oth2 a b w w := ⟨rfl, rfl, rfl, Nat.le_refl _, fun _ _ _ _ => rfl⟩
theorem Oth2.trans {a b : Nat} {w w1 w2 : World} (h : Oth2 a b w w1) (h' : Oth2 a b w1 w2) : Oth2 a b w w2 :=
 ⟨h'.os.trans h.os, h'.tape.trans h.tape, h'.output.trans h.output, Nat.le_trans h.size h'.size, fun k hk h1 h2 => (h'.block k (Nat.lt_of_lt_of_le hk h.size) h1 h2).trans (h.block k hk h1 h2)⟩
theorem Oth2.left {a b : Nat} {w w1 : World} (h : Oth a w w1) : Oth2 a b w w1 := ⟨h.os, h.tape, h.output, h.size, fun k hk h1 _ => h.block k hk (fun e => h1 (Option.some.inj e))⟩
theorem Oth2.right {a b : Nat} {w w1 : World} (h : Oth b w w1) : Oth2 a b w w1 := ⟨h.os, h.tape, h.output, h.size, fun k hk _ h2 => h.block k hk (fun e => h2 (Option.some.inj e))⟩
structure ItF (w0 w : World) (P I : Nat) (G : Hd) (p : Lfc.PE) (k : Nat) (cs : Array Value) : Prop where
 pw : PW w P G p k
 it : w.heap[I]? = some (.cells cs 42 (0, 0))
 ne : I ≠ P
 off : G.off p I
 oth : Oth2 P I w0 w
 sz : cs.size = 22
theorem ItF.call {w0 w w' : World} {P I k k' : Nat} {G : Hd} {p : Lfc.PE} {cs : Array Value} (h : ItF w0 w P I G p k cs) (hp : PW w' P G p k') (o : Oth P w w') : ItF w0 w' P I G p k' cs :=
 ⟨hp, o.heap h.it h.ne, h.ne, h.off, h.oth.trans (Oth2.left o), h.sz⟩
theorem ItF.below {w0 w w' : World} {P I k : Nat} {G : Hd} {p : Lfc.PE} {cs : Array Value} (h : ItF w0 w P I G p k cs) (b : Below w.heap.size w w') : ItF w0 w' P I G p k cs :=
 h.call (h.pw.below b) (Oth.of_below b)
theorem ItF.lt {w0 w : World} {P I k : Nat} {G : Hd} {p : Lfc.PE} {cs : Array Value} (h : ItF w0 w P I G p k cs) : I < w.heap.size := lt_of_block h.it
theorem ItF.again {w0 w : World} {P I k : Nat} {G : Hd} {p : Lfc.PE} {cs : Array Value} (h : ItF w0 w P I G p k cs) : ItF w w P I G p k cs := ⟨h.pw, h.it, h.ne, h.off, Oth2.refl _ _ _, h.sz⟩
theorem PW.oth {w w' : World} {P J k : Nat} {G : Hd} {p : Lfc.PE} (h : PW w P G p k) (hJ : G.off p J) (hn : J ≠ P) (o : Oth J w w') : PW w' P G p k := h.to3 hJ (Oth2.right o) (o.heap h.1 (Ne.symm hn))
theorem ItF.set {w0 w : World} {P I k : Nat} {G : Hd} {p : Lfc.PE} {cs : Array Value} (h : ItF w0 w P I G p k cs) (j : Nat) (v : Value) (hj : j < 22) :
  ∃ s u, w.setCell ⟨I, j, none⟩ v = s ∧ w.cell? ⟨I, j, none⟩ = some u ∧ w.frozen? ⟨I, j, none⟩ = false ∧ Hid (ItF w0 s P I G p k (cs.setIfInBounds j v)) := by
 refine ⟨_, cs[j]'(by rw [h.sz]; exact hj), rfl, (Lib.cell_of_heap h.it j).trans (Array.getElem?_eq_getElem _), Lib.frozen_of_heap h.it j, Lib.hid ?_⟩
 have o : Oth I w (w.setCell ⟨I, j, none⟩ v) := Oth.set _ _
 exact ⟨h.pw.oth h.off h.ne o, by simp [World.setCell, Array.getElem?_modify, h.it], h.ne, h.off, h.oth.trans (Oth2.right o), by simpa using h.sz⟩
def ItRes (P I : Nat) (G : Hd) (p : Lfc.PE) (w : World) : Lfc.ItR → Ending → World → Prop
 | .out, _, _ => True
 | .err c a, e, w' => e = Flt c a ∧ Oth2 P I w w'
 | .ok x k, e, w' => e = .returned (.tuple #[]) ∧ (∃ G', PW w' P G' ⟨p.toks, p.fin, x.2⟩ k ∧ ∀ J, J < w.heap.size → G.off p J → G'.off ⟨p.toks, p.fin, x.2⟩ J) ∧ ItB w' I w.heap.size x.1 ∧ Oth2 P I w w'
theorem ItF.ret {w0 w : World} {P I k : Nat} {G : Hd} {p : Lfc.PE} {cs : Array Value} (h : ItF w0 w P I G p k cs) (x : Lfc.Itm) (s : IS) (hc : cs = itCells x s) (hv : Stays (fun b => w0.heap.size ≤ b) w fun W => ItV W x s) : ItRes P I G p w0 (.ok (x, p.ops) k) (.returned (.tuple #[])) w :=
 ⟨rfl, ⟨G, h.pw, fun _ _ h => h⟩, ⟨s, by rw [← hc]; exact h.it, hv⟩, h.oth⟩
theorem expr_one {lo : Nat} {wc w1 : World} {t : Lfc.Raw} {k q : Int} {n : List UInt8} {us : List Lfc.Raw} {A : Option Addr} {c : Nat} (ty : TypeId) (hs : lo ≤ wc.heap.size) (hz : wc.heap.size ≤ w1.heap.size) (hp : TreeP (fun b => wc.heap.size ≤ b) w1 t (.int .i64 k) (S n) (.int .i64 q) (.slice A us.length c)) :
  ∃ wb, w1.alloc (.cells #[.int .i64 k, S n, .int .i64 q, .slice A us.length c] ty) = wb ∧ Below w1.heap.size w1 wb ∧ Hid (Stays (fun b => lo ≤ b) wb fun W => TreesAt W (some ⟨w1.heap.size, 0, none⟩) [t]) := by
 refine ⟨_, rfl, (Below.refl _ _).alloc (Nat.le_refl _) _, Lib.hid fun w' h1 h2 _ => ?_⟩
 have b1 : Below w1.heap.size w1 (w1.alloc (.cells #[.int .i64 k, S n, .int .i64 q, .slice A us.length c] ty)) := (Below.refl _ _).alloc (Nat.le_refl _) _
 have q1 : (w1.alloc (.cells #[.int .i64 k, S n, .int .i64 q, .slice A us.length c] ty)).heap[w1.heap.size]? = some (.cells #[.int .i64 k, S n, .int .i64 q, .slice A us.length c] ty (0, 0)) := heap_alloc_new _ _
 have hq := (h2 w1.heap.size (Nat.le_trans hs hz) (lt_of_block q1)).trans q1
 have hp' : TreeP (fun b => lo ≤ b) w' t (.int .i64 k) (S n) (.int .i64 q) (.slice A us.length c) := TreeP.keep (fun b hb hlt => (h2 b (Nat.le_trans hs hb) (Nat.lt_of_lt_of_le hlt b1.size)).trans (b1.block b hlt)) (Nat.le_trans b1.size h1) (fun b _ hb => Nat.le_trans hs hb) _ _ _ _ _ hp
 exact ⟨w1.heap.size, 0, rfl, lt_of_block hq, TreesP.toC [t] _ _ ((RowP.one hp').lie fun j u hj => by rw [Nat.zero_add, Lib.cell_of_heap hq j]; simpa using hj)⟩
theorem ItF.rebase {w0 wb w : World} {P I k : Nat} {G : Hd} {p : Lfc.PE} {cs : Array Value} (h : ItF wb w P I G p k cs) (o : Oth2 P I w0 wb) : ItF w0 w P I G p k cs := ⟨h.pw, h.it, h.ne, h.off, o.trans h.oth, h.sz⟩
theorem PW.ops {w : World} {P k : Nat} {G : Hd} {p : Lfc.PE} (h : PW w P G p k) {A : Option Addr} {c : Nat} {l : List Lfc.Op} (ho : OpsAt w A l) : PW (w.setCell ⟨P, 3, none⟩ (.slice A l.length c)) P ⟨G.A, G.c, A, c⟩ ⟨p.toks, p.fin, l⟩ k := by
 have hn := h.noStr
 have o : Oth P w (w.setCell ⟨P, 3, none⟩ (.slice A l.length c)) := Oth.set w _
 obtain ⟨h1, h2, h3⟩ := h
 exact ⟨by simp [World.setCell, Array.getElem?_modify, h1], h2.oth hn o, ho.oth hn o⟩
theorem name_le {p : Lfc.PE} (ok : POk p) {k k' : Nat} {n : List UInt8} (h : p.name k = .ok n k') : n.length ≤ 1000000 := by
 obtain ⟨h1, _, rfl⟩ := Lfc.PE.name_ok h
 have := (ok.tok _ (List.mem_of_getElem? (PE.pk_of h1))).1
 omega
theorem _root_.Lfc.idxW_lt (s : List UInt8) : ∀ ws : List (List UInt8), Lfc.idxW s ws < (ws.length : Int)
 | [] => by simp [Lfc.idxW]
 | a :: r => by
  have := Lfc.idxW_lt s r
  rw [Lfc.idxW]
  simp only [List.length_cons]
  split
  ·omega
  ·split <;> omega
theorem _root_.Lfc.PE.word_ok {p : Lfc.PE} {k k' : Nat} {i : Int} {ws : List (List UInt8)} (h : p.word k ws = .ok i k') : 0 ≤ i ∧ i < (ws.length : Int) ∧ (p.pk k).kind = 1 ∧ Lfc.idxW (p.pk k).text ws = i := by
 unfold Lfc.PE.word at h
 split at h
 ·exact (Lfc.PE.unexp_ok h).elim
 ·rename_i hn
  cases h
  have := Lfc.idxW_lt (p.pk k).text ws
  exact ⟨Int.not_lt.1 fun e => hn (.inl e), this, Decidable.byContradiction fun e => hn (.inr e), rfl⟩
end Go.Proofs.YthajalgkjonaaaaGreatDoor
namespace Go.Proofs.YthajalgkjonaaaaGreatDoor
open Go.RowKit
theorem StrsAt.below {w w' : World} {A : Option Addr} {l : List (List UInt8)} (h : StrsAt w A l) (hb : Below w.heap.size w w') : StrsAt w' A l := fun hne => by
 obtain ⟨b, o, hA, hlt, hc⟩ := h hne
 exact ⟨b, o, hA, Nat.lt_of_lt_of_le hlt hb.size, fun i hi => (hb.cell (p := ⟨b, _, none⟩) hlt).trans (hc i hi)⟩
theorem NumsAt.below {w w' : World} {A : Option Addr} {l : List Int} (h : NumsAt w A l) (hb : Below w.heap.size w w') : NumsAt w' A l := fun hne => by
 obtain ⟨b, o, hA, hlt, hc⟩ := h hne
 exact ⟨b, o, hA, Nat.lt_of_lt_of_le hlt hb.size, fun i hi => (hb.cell (p := ⟨b, _, none⟩) hlt).trans (hc i hi)⟩
theorem BndC.below {w w' : World} {b o : Nat} {x : Lfc.Bnd} (h : BndC w b o x) (hb : Below w.heap.size w w') (hlt : b < w.heap.size) : BndC w' b o x := by
 obtain ⟨v0, v1, v2, v3, c0, hn, c1, c2, c3, c4, ht⟩ := h
 exact ⟨v0, v1, v2, v3, (hb.cell (p := ⟨b, _, none⟩) hlt).trans c0, hn, (hb.cell (p := ⟨b, _, none⟩) hlt).trans c1, (hb.cell (p := ⟨b, _, none⟩) hlt).trans c2, (hb.cell (p := ⟨b, _, none⟩) hlt).trans c3, (hb.cell (p := ⟨b, _, none⟩) hlt).trans c4, TreeC.below hb _ _ _ _ _ ht⟩
theorem BndsAt.below {w w' : World} {A : Option Addr} {l : List Lfc.Bnd} (h : BndsAt w A l) (hb : Below w.heap.size w w') : BndsAt w' A l := fun hne => by
 obtain ⟨b, o, hA, hlt, hc⟩ := h hne
 exact ⟨b, o, hA, Nat.lt_of_lt_of_le hlt hb.size, fun i hi => (hc i hi).below hb hlt⟩
theorem FOrdC.below {w w' : World} {b o : Nat} {x : List UInt8 × Lfc.Ord} (h : FOrdC w b o x) (hb : Below w.heap.size w w') (hlt : b < w.heap.size) : FOrdC w' b o x := by
 obtain ⟨v0, v1, v2, c0, hn, c1, c2, c3, ho⟩ := h
 exact ⟨v0, v1, v2, (hb.cell (p := ⟨b, _, none⟩) hlt).trans c0, hn, (hb.cell (p := ⟨b, _, none⟩) hlt).trans c1, (hb.cell (p := ⟨b, _, none⟩) hlt).trans c2, (hb.cell (p := ⟨b, _, none⟩) hlt).trans c3, OrdC.below hb _ _ _ _ ho⟩
theorem FOrdsAt.below {w w' : World} {A : Option Addr} {l : List (List UInt8 × Lfc.Ord)} (h : FOrdsAt w A l) (hb : Below w.heap.size w w') : FOrdsAt w' A l := fun hne => by
 obtain ⟨b, o, hA, hlt, hc⟩ := h hne
 exact ⟨b, o, hA, Nat.lt_of_lt_of_le hlt hb.size, fun i hi => (hc i hi).below hb hlt⟩
theorem ItV.below {w w' : World} {x : Lfc.Itm} {s : IS} (h : ItV w x s) (hb : Below w.heap.size w w') : ItV w' x s :=
 ⟨h.name, h.opn, ⟨h.ty.1.below hb, h.ty.2⟩, ⟨h.va.1.below hb, h.va.2⟩, ⟨h.so.1.below hb, h.so.2⟩, ⟨h.pa.1.below hb, h.pa.2⟩, ⟨h.bl.1.below hb, h.bl.2⟩, ⟨h.fa.1.below hb, h.fa.2⟩, ⟨h.si.1.below hb, h.si.2⟩, ⟨h.od.1.below hb, h.od.2⟩, ⟨h.le.1.below hb, h.le.2⟩, ⟨h.ri.1.below hb, h.ri.2⟩⟩
end Go.Proofs.YthajalgkjonaaaaGreatDoor
namespace Lfc
def Ord.no : Ord → Bool
 | .node k a ps => decide (k = 0) && decide (a = 0) && decide (ps.length = 0)
def Itm.lens (x : Itm) : Nat := x.type.length + x.value.length + x.som.length + x.params.length + x.blocks.length + x.fams.length + x.signs.length + x.orders.length
def Itm.blank (x : Itm) : Bool := decide (x.lens = 0) && decide (x.name = []) && (decide (x.op.name = []) && decide (x.op.fix = 0) && decide (x.op.prec = 0)) && x.left.no && x.right.no && decide (x.rel = 0) && decide (x.count = 0)
end Lfc
namespace Go.Proofs.YthajalgkjonaaaaGreatDoor
open Go.RowKit
theorem it_set {w : World} {K : Nat} {cs : Array Value} (h : w.heap[K]? = some (.cells cs 42 (0, 0))) (hs : cs.size = 22) (j : Nat) (v : Value) (hj : j < 22) :
  ∃ s u, w.setCell ⟨K, j, none⟩ v = s ∧ w.cell? ⟨K, j, none⟩ = some u ∧ w.frozen? ⟨K, j, none⟩ = false ∧ Hid (s.heap[K]? = some (.cells (cs.setIfInBounds j v) 42 (0, 0)) ∧ (cs.setIfInBounds j v).size = 22 ∧ Oth K w s) :=
 ⟨_, cs[j]'(by omega), rfl, (Lib.cell_of_heap h j).trans (Array.getElem?_eq_getElem _), Lib.frozen_of_heap h j, Lib.hid ⟨by simp [World.setCell, Array.getElem?_modify, h], by simpa using hs, Oth.set _ _⟩⟩
theorem it_loadC {w : World} {b o : Nat} {cs : Array Value} (h : ∀ j v, cs[j]? = some v → w.cell? ⟨b, o + j, none⟩ = some v) (hs : cs.size = 22) : (Instr.loadAt 42 (.pointer (some ⟨b, o, none⟩))).run Tryz.prog w = .ok (.agg cs) w :=
 run_loadAt_mid w b o 42 cs.toList _ (fun j v hv => h j v (by simpa using hv)) Tryz.underlying42 rfl (by rw [Array.length_toList, hs]; kernel_rfl)
theorem it_load {w : World} {K : Nat} {cs : Array Value} (h : w.heap[K]? = some (.cells cs 42 (0, 0))) (hs : cs.size = 22) : (Instr.loadAt 42 (.pointer (some ⟨K, 0, none⟩))).run Tryz.prog w = .ok (.agg cs) w :=
 it_loadC (fun j v hv => by rw [Nat.zero_add, Lib.cell_of_heap h j]; exact hv) hs
theorem wpList_it {ops : Array Oper} {rest : List Oper} {o : Oper} {a : Act} {w : World} {Q : Exit → Act → World → Prop} {x : Operand} {p : Value} {cs : Array Value} (ho : o.op = .load 42 x) (hx : a.eval x = p) (hw : Region.wanted o (yielded ops a.tmps) = true)
  (hl : (Instr.loadAt 42 p).run Tryz.prog w = .ok (.agg cs) w) (h : wpList Tryz.prog ops Q rest (a.put o.dst (.agg cs)) w) : wpList Tryz.prog ops Q (o :: rest) a w := by
 refine wpList_step fun K hK => ?_
 rw [if_pos hw]
 unfold Oper.wp execOp
 simp only [ho, hx, Sem.run_bind, Sem.run_pure, Result.andThen_ok, hl]
 exact hK _ _ h
set_option maxRecDepth 100000 in
set_option maxHeartbeats 2000000 in
theorem noOrder_any (k a : Int) (A : Option Addr) (n c : Nat) (w : World) : Calls Tryz.prog 148 #[.agg #[.int .i64 k, .int .i64 a, .slice A n c]] w fun e w' => e = .returned (.bool (decide (k = 0) && decide (a = 0) && decide (n = 0))) ∧ Below w.heap.size w w' := by
 obtain ⟨w1, hw1⟩ : ∃ w1, w.alloc (.cells #[.int .i64 k, .int .i64 a, .slice A n c] 40) = w1 := ⟨_, rfl⟩
 have b1 : Below w.heap.size w w1 := by rw [← hw1]; exact (Below.refl _ _).alloc (Nat.le_refl _) _
 have q1 : w1.heap[w.heap.size]? = some (.cells #[.int .i64 k, .int .i64 a, .slice A n c] 40 (0, 0)) := by rw [← hw1]; exact heap_alloc_new _ _
 have x0 := Lib.cell_of_heap q1 0
 have x1 := Lib.cell_of_heap q1 1
 have x2 := Lib.cell_of_heap q1 2
 simp at x0 x1 x2
 clear q1
 have e1 : (k == 0) = decide (k = 0) := by by_cases h : k = 0 <;> simp [h]
 have e2 : (a == 0) = decide (a = 0) := by by_cases h : a = 0 <;> simp [h]
 have e3 : ((n : Int) == 0) = decide (n = 0) := by by_cases h : n = 0 <;> simp [h]
 generalize decide (k = 0) = p1 at *
 generalize decide (a = 0) = p2 at *
 generalize decide (n = 0) = p3 at *
 cases p1
 ·go_enter Tryz.func148, Tryz.ntmps148
  go_upto_region 1 with fail
  clear hw1
  go_wp2_with fail
  go_ret
  exact ⟨rfl, b1⟩
 cases p2
 ·go_enter Tryz.func148, Tryz.ntmps148
  go_upto_region 1 with fail
  clear hw1
  go_wp2_with fail
  go_ret
  exact ⟨rfl, b1⟩
 go_enter Tryz.func148, Tryz.ntmps148
 go_upto_region 1 with fail
 clear hw1
 go_wp2_with fail
 go_ret
 exact ⟨rfl, b1⟩
theorem op_guard : Tryz.prog.eqGuardType Tryz.prog.depth 34 = false := by kernel_rfl
theorem op_zero (n : List UInt8) (f p : Int) (w : World) : (Op.equalIn 10000 34 (.agg #[S n, .int .i64 f, .int .i64 p]) (.agg #[S [], .int .i64 0, .int .i64 0])).run Tryz.prog w = .ok (decide (n = []) && decide (f = 0) && decide (p = 0)) w := by
 have u3 := Tryz.underlying3
 have a3 := Tryz.isAgg3
 have z3 := Tryz.sizeOf3
 have u9 := Tryz.underlying9
 have a9 := Tryz.isAgg9
 have z9 := Tryz.sizeOf9
 have hS : Tryz.prog.underlying 34 = some (.struct (Tryz.prog.fieldsOf 34)) := by kernel_rfl
 have hp : Tryz.prog.stoodInHeld 34 = false := by kernel_rfl
 rw [show (10000 : Nat) = 9999 + 1 from rfl, run_equalIn_agg w 9999 34 _ _ hS hp]
 simp only [Program.fieldsOf, Tryz.underlying34]
 go_simp
 by_cases h1 : n = [] <;> by_cases h2 : f = 0 <;> by_cases h3 : p = 0 <;> simp [h1, h2, h3]
set_option maxRecDepth 100000 in
set_option maxHeartbeats 8000000 in
theorem only_any (F : FuncId) (he : ∀ args w, (callFunc F args).run Tryz.prog w = .ok (.enter F args) w) (x x' : Lfc.Itm) (s s' : IS) (w : World) (hx : x'.lens ≤ 1000000)
  (hF : ∀ (W : World) (K : Nat), W.heap[K]? = some (.cells (itCells x s) 42 (0, 0)) → Calls Tryz.prog F #[.pointer (some ⟨K, 0, none⟩)] W fun e w' => e = .returned (.tuple #[]) ∧ Oth K W w' ∧ w'.heap[K]? = some (.cells (itCells x' s') 42 (0, 0))) :
  Calls Tryz.prog 81 #[.agg (itCells x s), .func (.func F) #[] #[]] w fun e w' => e = .returned (.bool x'.blank) ∧ Below w.heap.size w w' := by
 obtain ⟨w1, hw1⟩ : ∃ w1, w.alloc (.cells (itCells x s) 42) = w1 := ⟨_, rfl⟩
 have b1 : Below w.heap.size w w1 := by rw [← hw1]; exact (Below.refl _ _).alloc (Nat.le_refl _) _
 have q1 : w1.heap[w.heap.size]? = some (.cells (itCells x s) 42 (0, 0)) := by rw [← hw1]; exact heap_alloc_new _ _
 have C := Lib.hid (hF w1 w.heap.size q1)
 have HLT := Lib.hid (lt_of_block q1)
 clear hF q1
 obtain ⟨c0, c1, c2, c3, c4, c5, c6, c7, c8, c9, c10, c11, c12, c13, c14, c15, c16, c17, c18, c19, c20, c21, hcs⟩ : ∃ c0 c1 c2 c3 c4 c5 c6 c7 c8 c9 c10 c11 c12 c13 c14 c15 c16 c17 c18 c19 c20 c21, itCells x s = #[c0, c1, c2, c3, c4, c5, c6, c7, c8, c9, c10, c11, c12, c13, c14, c15, c16, c17, c18, c19, c20, c21] := ⟨_, _, _, _, _, _, _, _, _, _, _, _, _, _, _, _, _, _, _, _, _, _, rfl⟩
 rw [hcs] at hw1 ⊢
 have HCS := Lib.hid hcs
 clear hcs
 have main : ∀ (p1 p2 p3 p4 p5 p6 p7 : Bool), (x'.lens = 0 ↔ p1 = true) → decide (x'.name = []) = p2 → (decide (x'.op.name = []) && decide (x'.op.fix = 0) && decide (x'.op.prec = 0)) = p3 → x'.left.no = p4 → x'.right.no = p5 → decide (x'.rel = 0) = p6 → decide (x'.count = 0) = p7 →
   Calls Tryz.prog 81 #[.agg #[c0, c1, c2, c3, c4, c5, c6, c7, c8, c9, c10, c11, c12, c13, c14, c15, c16, c17, c18, c19, c20, c21], .func (.func F) #[] #[]] w fun e w' => e = .returned (.bool (p1 && p2 && p3 && p4 && p5 && p6 && p7)) ∧ Below w.heap.size w w' := by
  intro p1 p2 p3 p4 p5 p6 p7 h1 h2 h3 h4 h5 h6 h7
  obtain ⟨kind, pos, name, type, value, ⟨on, of, op⟩, som, params, blocks, fams, signs, orders, ⟨lk, la, lp⟩, ⟨rk, ra, rp⟩, rel, count⟩ := x'
  simp only [Lfc.Itm.lens, Lfc.Ord.no] at h1 h2 h3 h4 h5 h6 h7 hx
  have e1 : ((type.length : Int) + value.length + som.length + params.length + blocks.length + fams.length + signs.length + orders.length == 0) = p1 := by
   by_cases h : type.length + value.length + som.length + params.length + blocks.length + fams.length + signs.length + orders.length = 0
   ·rw [h1.1 h]; simp only [beq_iff_eq]; omega
   ·have hp : p1 = false := by
     cases p1
     ·rfl
     ·exact absurd (h1.2 rfl) h
    rw [hp]; simp only [beq_eq_false_iff_ne, ne_eq]; omega
  have e2 : (name == []) = p2 := by rw [← h2]; by_cases h : name = [] <;> simp [h]
  have e3 : ∀ W : World, (Op.equalIn 10000 34 (.agg #[S on, .int .i64 of, .int .i64 op]) (.agg #[S [], .int .i64 0, .int .i64 0])).run Tryz.prog W = .ok p3 W := fun W => by rw [op_zero, h3]
  have e3' := op_guard
  have e6 : (rel == 0) = p6 := by rw [← h6]; by_cases h : rel = 0 <;> simp [h]
  have e7 : (count == 0) = p7 := by rw [← h7]; by_cases h : count = 0 <;> simp [h]
  have s1 : IntKind.i64.wrap ((type.length : Int) + value.length) = (type.length : Int) + value.length := IntWalk.i64_in _ (by omega)
  have s2 : IntKind.i64.wrap ((type.length : Int) + value.length + som.length) = (type.length : Int) + value.length + som.length := IntWalk.i64_in _ (by omega)
  have s3 : IntKind.i64.wrap ((type.length : Int) + value.length + som.length + params.length) = (type.length : Int) + value.length + som.length + params.length := IntWalk.i64_in _ (by omega)
  have s4 : IntKind.i64.wrap ((type.length : Int) + value.length + som.length + params.length + blocks.length) = (type.length : Int) + value.length + som.length + params.length + blocks.length := IntWalk.i64_in _ (by omega)
  have s5 : IntKind.i64.wrap ((type.length : Int) + value.length + som.length + params.length + blocks.length + fams.length) = (type.length : Int) + value.length + som.length + params.length + blocks.length + fams.length := IntWalk.i64_in _ (by omega)
  have s6 : IntKind.i64.wrap ((type.length : Int) + value.length + som.length + params.length + blocks.length + fams.length + signs.length) = (type.length : Int) + value.length + som.length + params.length + blocks.length + fams.length + signs.length := IntWalk.i64_in _ (by omega)
  have s7 : IntKind.i64.wrap ((type.length : Int) + value.length + som.length + params.length + blocks.length + fams.length + signs.length + orders.length) = (type.length : Int) + value.length + som.length + params.length + blocks.length + fams.length + signs.length + orders.length := IntWalk.i64_in _ (by omega)
  have CL := Lib.hid (fun W => noOrder_any lk la s'.le.1 lp.length s'.le.2 W)
  have CR := Lib.hid (fun W => noOrder_any rk ra s'.ri.1 rp.length s'.ri.2 W)
  rw [h4] at CL
  rw [h5] at CR
  simp only [itCells, Lfc.Ord.k, Lfc.Ord.a, Lfc.Ord.ps] at C
  generalize type.length = n1 at *
  generalize value.length = n2 at *
  generalize som.length = n3 at *
  generalize params.length = n4 at *
  generalize blocks.length = n5 at *
  generalize fams.length = n6 at *
  generalize signs.length = n7 at *
  generalize orders.length = n8 at *
  generalize lp.length = n9 at *
  generalize rp.length = n10 at *
  clear h1 h2 h3 h4 h5 h6 h7
  cases p1
  ·go_enter Tryz.func81, Tryz.ntmps81
   go_upto_region 1 with fail
   clear hw1
   go_upto_region 2 with (go_simp; refine C.out.mono ?_; rintro e w2 ⟨rfl, o2, q2⟩)
   have b2 : Below w.heap.size w w2 := Oth.below b1 o2 (Nat.le_refl _) (Nat.le_of_lt HLT.out)
   have y2 := Lib.cell_of_heap q2 2
   have y3 := Lib.cell_of_heap q2 3
   have y4 := Lib.cell_of_heap q2 4
   have y5 := Lib.cell_of_heap q2 5
   have y6 := Lib.cell_of_heap q2 6
   have y7 := Lib.cell_of_heap q2 7
   have y8 := Lib.cell_of_heap q2 8
   have y9 := Lib.cell_of_heap q2 9
   have y10 := Lib.cell_of_heap q2 10
   have y11 := Lib.cell_of_heap q2 11
   have y12 := Lib.cell_of_heap q2 12
   have y13 := Lib.cell_of_heap q2 13
   have y14 := Lib.cell_of_heap q2 14
   have y15 := Lib.cell_of_heap q2 15
   have y16 := Lib.cell_of_heap q2 16
   have y17 := Lib.cell_of_heap q2 17
   have y18 := Lib.cell_of_heap q2 18
   have y19 := Lib.cell_of_heap q2 19
   have y20 := Lib.cell_of_heap q2 20
   have y21 := Lib.cell_of_heap q2 21
   simp at y2 y3 y4 y5 y6 y7 y8 y9 y10 y11 y12 y13 y14 y15 y16 y17 y18 y19 y20 y21
   clear q2 o2
   go_wp2_with fail
   go_ret
   exact ⟨by simp, b2⟩
  cases p2
  ·go_enter Tryz.func81, Tryz.ntmps81
   go_upto_region 1 with fail
   clear hw1
   go_upto_region 2 with (go_simp; refine C.out.mono ?_; rintro e w2 ⟨rfl, o2, q2⟩)
   have b2 : Below w.heap.size w w2 := Oth.below b1 o2 (Nat.le_refl _) (Nat.le_of_lt HLT.out)
   have y2 := Lib.cell_of_heap q2 2
   have y3 := Lib.cell_of_heap q2 3
   have y4 := Lib.cell_of_heap q2 4
   have y5 := Lib.cell_of_heap q2 5
   have y6 := Lib.cell_of_heap q2 6
   have y7 := Lib.cell_of_heap q2 7
   have y8 := Lib.cell_of_heap q2 8
   have y9 := Lib.cell_of_heap q2 9
   have y10 := Lib.cell_of_heap q2 10
   have y11 := Lib.cell_of_heap q2 11
   have y12 := Lib.cell_of_heap q2 12
   have y13 := Lib.cell_of_heap q2 13
   have y14 := Lib.cell_of_heap q2 14
   have y15 := Lib.cell_of_heap q2 15
   have y16 := Lib.cell_of_heap q2 16
   have y17 := Lib.cell_of_heap q2 17
   have y18 := Lib.cell_of_heap q2 18
   have y19 := Lib.cell_of_heap q2 19
   have y20 := Lib.cell_of_heap q2 20
   have y21 := Lib.cell_of_heap q2 21
   simp at y2 y3 y4 y5 y6 y7 y8 y9 y10 y11 y12 y13 y14 y15 y16 y17 y18 y19 y20 y21
   clear q2 o2
   go_wp2_with fail
   go_ret
   exact ⟨by simp, b2⟩
  cases p3
  ·go_enter Tryz.func81, Tryz.ntmps81
   go_upto_region 1 with fail
   clear hw1
   go_upto_region 2 with (go_simp; refine C.out.mono ?_; rintro e w2 ⟨rfl, o2, q2⟩)
   have b2 : Below w.heap.size w w2 := Oth.below b1 o2 (Nat.le_refl _) (Nat.le_of_lt HLT.out)
   have y2 := Lib.cell_of_heap q2 2
   have y3 := Lib.cell_of_heap q2 3
   have y4 := Lib.cell_of_heap q2 4
   have y5 := Lib.cell_of_heap q2 5
   have y6 := Lib.cell_of_heap q2 6
   have y7 := Lib.cell_of_heap q2 7
   have y8 := Lib.cell_of_heap q2 8
   have y9 := Lib.cell_of_heap q2 9
   have y10 := Lib.cell_of_heap q2 10
   have y11 := Lib.cell_of_heap q2 11
   have y12 := Lib.cell_of_heap q2 12
   have y13 := Lib.cell_of_heap q2 13
   have y14 := Lib.cell_of_heap q2 14
   have y15 := Lib.cell_of_heap q2 15
   have y16 := Lib.cell_of_heap q2 16
   have y17 := Lib.cell_of_heap q2 17
   have y18 := Lib.cell_of_heap q2 18
   have y19 := Lib.cell_of_heap q2 19
   have y20 := Lib.cell_of_heap q2 20
   have y21 := Lib.cell_of_heap q2 21
   simp at y2 y3 y4 y5 y6 y7 y8 y9 y10 y11 y12 y13 y14 y15 y16 y17 y18 y19 y20 y21
   clear q2 o2
   go_wp2_with fail
   go_ret
   exact ⟨by simp, b2⟩
  cases p4
  ·go_enter Tryz.func81, Tryz.ntmps81
   go_upto_region 1 with fail
   clear hw1
   go_upto_region 2 with (go_simp; refine C.out.mono ?_; rintro e w2 ⟨rfl, o2, q2⟩)
   have b2 : Below w.heap.size w w2 := Oth.below b1 o2 (Nat.le_refl _) (Nat.le_of_lt HLT.out)
   have y2 := Lib.cell_of_heap q2 2
   have y3 := Lib.cell_of_heap q2 3
   have y4 := Lib.cell_of_heap q2 4
   have y5 := Lib.cell_of_heap q2 5
   have y6 := Lib.cell_of_heap q2 6
   have y7 := Lib.cell_of_heap q2 7
   have y8 := Lib.cell_of_heap q2 8
   have y9 := Lib.cell_of_heap q2 9
   have y10 := Lib.cell_of_heap q2 10
   have y11 := Lib.cell_of_heap q2 11
   have y12 := Lib.cell_of_heap q2 12
   have y13 := Lib.cell_of_heap q2 13
   have y14 := Lib.cell_of_heap q2 14
   have y15 := Lib.cell_of_heap q2 15
   have y16 := Lib.cell_of_heap q2 16
   have y17 := Lib.cell_of_heap q2 17
   have y18 := Lib.cell_of_heap q2 18
   have y19 := Lib.cell_of_heap q2 19
   have y20 := Lib.cell_of_heap q2 20
   have y21 := Lib.cell_of_heap q2 21
   simp at y2 y3 y4 y5 y6 y7 y8 y9 y10 y11 y12 y13 y14 y15 y16 y17 y18 y19 y20 y21
   clear q2 o2
   go_wp2_with (go_at_call 148; refine (CL.out _).mono ?_; rintro e w3 ⟨rfl, b3⟩; have z3 := b2.trans (b3.mono b2.size))
   go_ret
   exact ⟨by simp, z3⟩
  cases p5
  ·go_enter Tryz.func81, Tryz.ntmps81
   go_upto_region 1 with fail
   clear hw1
   go_upto_region 2 with (go_simp; refine C.out.mono ?_; rintro e w2 ⟨rfl, o2, q2⟩)
   have b2 : Below w.heap.size w w2 := Oth.below b1 o2 (Nat.le_refl _) (Nat.le_of_lt HLT.out)
   have y2 := Lib.cell_of_heap q2 2
   have y3 := Lib.cell_of_heap q2 3
   have y4 := Lib.cell_of_heap q2 4
   have y5 := Lib.cell_of_heap q2 5
   have y6 := Lib.cell_of_heap q2 6
   have y7 := Lib.cell_of_heap q2 7
   have y8 := Lib.cell_of_heap q2 8
   have y9 := Lib.cell_of_heap q2 9
   have y10 := Lib.cell_of_heap q2 10
   have y11 := Lib.cell_of_heap q2 11
   have y12 := Lib.cell_of_heap q2 12
   have y13 := Lib.cell_of_heap q2 13
   have y14 := Lib.cell_of_heap q2 14
   have y15 := Lib.cell_of_heap q2 15
   have y16 := Lib.cell_of_heap q2 16
   have y17 := Lib.cell_of_heap q2 17
   have y18 := Lib.cell_of_heap q2 18
   have y19 := Lib.cell_of_heap q2 19
   have y20 := Lib.cell_of_heap q2 20
   have y21 := Lib.cell_of_heap q2 21
   simp at y2 y3 y4 y5 y6 y7 y8 y9 y10 y11 y12 y13 y14 y15 y16 y17 y18 y19 y20 y21
   clear q2 o2
   have HR := Lib.hid (fun W (hb : Below w2.heap.size w2 W) => And.intro ((hb.cell (p := ⟨w.heap.size, 17, none⟩) (lt_of_cell' y17)).trans y17) (And.intro ((hb.cell (p := ⟨w.heap.size, 18, none⟩) (lt_of_cell' y18)).trans y18) (And.intro ((hb.cell (p := ⟨w.heap.size, 19, none⟩) (lt_of_cell' y19)).trans y19) (And.intro ((hb.cell (p := ⟨w.heap.size, 20, none⟩) (lt_of_cell' y20)).trans y20) ((hb.cell (p := ⟨w.heap.size, 21, none⟩) (lt_of_cell' y21)).trans y21)))))
   go_wp2_with (go_at_call 148; first | ((with_reducible refine (CL.out _).mono ?_); rintro e w3 ⟨rfl, b3⟩; obtain ⟨z17, z18, z19, z20, z21⟩ := HR.out _ b3; have b4 := b2.trans (b3.mono b2.size)) | ((with_reducible refine (CR.out _).mono ?_); rintro e w5 ⟨rfl, b5⟩; have b6 := b4.trans (b5.mono b4.size); have t20 := (b5.cell (p := ⟨w.heap.size, 20, none⟩) (lt_of_cell' z20)).trans z20; have t21 := (b5.cell (p := ⟨w.heap.size, 21, none⟩) (lt_of_cell' z21)).trans z21))
   go_ret
   exact ⟨by simp, by first | exact b6 | exact b4⟩
  cases p6
  ·go_enter Tryz.func81, Tryz.ntmps81
   go_upto_region 1 with fail
   clear hw1
   go_upto_region 2 with (go_simp; refine C.out.mono ?_; rintro e w2 ⟨rfl, o2, q2⟩)
   have b2 : Below w.heap.size w w2 := Oth.below b1 o2 (Nat.le_refl _) (Nat.le_of_lt HLT.out)
   have y2 := Lib.cell_of_heap q2 2
   have y3 := Lib.cell_of_heap q2 3
   have y4 := Lib.cell_of_heap q2 4
   have y5 := Lib.cell_of_heap q2 5
   have y6 := Lib.cell_of_heap q2 6
   have y7 := Lib.cell_of_heap q2 7
   have y8 := Lib.cell_of_heap q2 8
   have y9 := Lib.cell_of_heap q2 9
   have y10 := Lib.cell_of_heap q2 10
   have y11 := Lib.cell_of_heap q2 11
   have y12 := Lib.cell_of_heap q2 12
   have y13 := Lib.cell_of_heap q2 13
   have y14 := Lib.cell_of_heap q2 14
   have y15 := Lib.cell_of_heap q2 15
   have y16 := Lib.cell_of_heap q2 16
   have y17 := Lib.cell_of_heap q2 17
   have y18 := Lib.cell_of_heap q2 18
   have y19 := Lib.cell_of_heap q2 19
   have y20 := Lib.cell_of_heap q2 20
   have y21 := Lib.cell_of_heap q2 21
   simp at y2 y3 y4 y5 y6 y7 y8 y9 y10 y11 y12 y13 y14 y15 y16 y17 y18 y19 y20 y21
   clear q2 o2
   have HR := Lib.hid (fun W (hb : Below w2.heap.size w2 W) => And.intro ((hb.cell (p := ⟨w.heap.size, 17, none⟩) (lt_of_cell' y17)).trans y17) (And.intro ((hb.cell (p := ⟨w.heap.size, 18, none⟩) (lt_of_cell' y18)).trans y18) (And.intro ((hb.cell (p := ⟨w.heap.size, 19, none⟩) (lt_of_cell' y19)).trans y19) (And.intro ((hb.cell (p := ⟨w.heap.size, 20, none⟩) (lt_of_cell' y20)).trans y20) ((hb.cell (p := ⟨w.heap.size, 21, none⟩) (lt_of_cell' y21)).trans y21)))))
   go_wp2_with (go_at_call 148; first | ((with_reducible refine (CL.out _).mono ?_); rintro e w3 ⟨rfl, b3⟩; obtain ⟨z17, z18, z19, z20, z21⟩ := HR.out _ b3; have b4 := b2.trans (b3.mono b2.size)) | ((with_reducible refine (CR.out _).mono ?_); rintro e w5 ⟨rfl, b5⟩; have b6 := b4.trans (b5.mono b4.size); have t20 := (b5.cell (p := ⟨w.heap.size, 20, none⟩) (lt_of_cell' z20)).trans z20; have t21 := (b5.cell (p := ⟨w.heap.size, 21, none⟩) (lt_of_cell' z21)).trans z21))
   go_ret
   exact ⟨by simp, by first | exact b6 | exact b4⟩
  go_enter Tryz.func81, Tryz.ntmps81
  go_upto_region 1 with fail
  clear hw1
  go_upto_region 2 with (go_simp; refine C.out.mono ?_; rintro e w2 ⟨rfl, o2, q2⟩)
  have b2 : Below w.heap.size w w2 := Oth.below b1 o2 (Nat.le_refl _) (Nat.le_of_lt HLT.out)
  have y2 := Lib.cell_of_heap q2 2
  have y3 := Lib.cell_of_heap q2 3
  have y4 := Lib.cell_of_heap q2 4
  have y5 := Lib.cell_of_heap q2 5
  have y6 := Lib.cell_of_heap q2 6
  have y7 := Lib.cell_of_heap q2 7
  have y8 := Lib.cell_of_heap q2 8
  have y9 := Lib.cell_of_heap q2 9
  have y10 := Lib.cell_of_heap q2 10
  have y11 := Lib.cell_of_heap q2 11
  have y12 := Lib.cell_of_heap q2 12
  have y13 := Lib.cell_of_heap q2 13
  have y14 := Lib.cell_of_heap q2 14
  have y15 := Lib.cell_of_heap q2 15
  have y16 := Lib.cell_of_heap q2 16
  have y17 := Lib.cell_of_heap q2 17
  have y18 := Lib.cell_of_heap q2 18
  have y19 := Lib.cell_of_heap q2 19
  have y20 := Lib.cell_of_heap q2 20
  have y21 := Lib.cell_of_heap q2 21
  simp at y2 y3 y4 y5 y6 y7 y8 y9 y10 y11 y12 y13 y14 y15 y16 y17 y18 y19 y20 y21
  clear q2 o2
  have HR := Lib.hid (fun W (hb : Below w2.heap.size w2 W) => And.intro ((hb.cell (p := ⟨w.heap.size, 17, none⟩) (lt_of_cell' y17)).trans y17) (And.intro ((hb.cell (p := ⟨w.heap.size, 18, none⟩) (lt_of_cell' y18)).trans y18) (And.intro ((hb.cell (p := ⟨w.heap.size, 19, none⟩) (lt_of_cell' y19)).trans y19) (And.intro ((hb.cell (p := ⟨w.heap.size, 20, none⟩) (lt_of_cell' y20)).trans y20) ((hb.cell (p := ⟨w.heap.size, 21, none⟩) (lt_of_cell' y21)).trans y21)))))
  go_wp2_with (go_at_call 148; first | ((with_reducible refine (CL.out _).mono ?_); rintro e w3 ⟨rfl, b3⟩; obtain ⟨z17, z18, z19, z20, z21⟩ := HR.out _ b3; have b4 := b2.trans (b3.mono b2.size)) | ((with_reducible refine (CR.out _).mono ?_); rintro e w5 ⟨rfl, b5⟩; have b6 := b4.trans (b5.mono b4.size); have t20 := (b5.cell (p := ⟨w.heap.size, 20, none⟩) (lt_of_cell' z20)).trans z20; have t21 := (b5.cell (p := ⟨w.heap.size, 21, none⟩) (lt_of_cell' z21)).trans z21))
  go_ret
  exact ⟨by simp, by first | exact b6 | exact b4⟩
 have := main (decide (x'.lens = 0)) _ _ _ _ _ _ (by simp) rfl rfl rfl rfl rfl rfl
 exact this
set_option maxRecDepth 100000 in
set_option maxHeartbeats 2000000 in
theorem clr1 (x : Lfc.Itm) (s : IS) (K : Nat) (w : World) (h : w.heap[K]? = some (.cells (itCells x s) 42 (0, 0))) : Calls Tryz.prog 82 #[.pointer (some ⟨K, 0, none⟩)] w fun e w' => e = .returned (.tuple #[]) ∧ Oth K w w' ∧ w'.heap[K]? = some (.cells (itCells { x with name := [], type := [] } { s with ty := (none, 0) }) 42 (0, 0)) := by
 have g0 := Lib.hid (And.intro h (And.intro (show (itCells x s).size = 22 from rfl) (Oth.refl K w)))
 obtain ⟨s1, u1, e1, y1, z1, g1⟩ := it_set g0.out.1 g0.out.2.1 2 (S []) (by decide)
 obtain ⟨s2, u2, e2, y2, z2, g2⟩ := it_set g1.out.1 g1.out.2.1 3 (.slice none 0 0) (by decide)
 have R := Lib.hid (And.intro (((Oth.refl K w).trans g1.out.2.2).trans g2.out.2.2) g2.out.1)
 clear h g0 g1 g2
 go_enter Tryz.func82, Tryz.ntmps82
 go_wp2_with fail
 go_end0
 exact ⟨rfl, R.out.1, R.out.2.trans (by obtain ⟨_, _, _, _, _, ⟨_, _, _⟩, _, _, _, _, _, _, ⟨_, _, _⟩, ⟨_, _, _⟩, _, _⟩ := x; rfl)⟩
set_option maxRecDepth 100000 in
set_option maxHeartbeats 2000000 in
theorem clr3 (x : Lfc.Itm) (s : IS) (K : Nat) (w : World) (h : w.heap[K]? = some (.cells (itCells x s) 42 (0, 0))) : Calls Tryz.prog 84 #[.pointer (some ⟨K, 0, none⟩)] w fun e w' => e = .returned (.tuple #[]) ∧ Oth K w w' ∧ w'.heap[K]? = some (.cells (itCells { x with op := ⟨[], 0, 0⟩ } s) 42 (0, 0)) := by
 have g0 := Lib.hid (And.intro h (And.intro (show (itCells x s).size = 22 from rfl) (Oth.refl K w)))
 obtain ⟨s1, u1, e1, y1, z1, g1⟩ := it_set g0.out.1 g0.out.2.1 5 (S []) (by decide)
 obtain ⟨s2, u2, e2, y2, z2, g2⟩ := it_set g1.out.1 g1.out.2.1 6 (.int .i64 0) (by decide)
 obtain ⟨s3, u3, e3, y3, z3, g3⟩ := it_set g2.out.1 g2.out.2.1 7 (.int .i64 0) (by decide)
 have R := Lib.hid (And.intro ((((Oth.refl K w).trans g1.out.2.2).trans g2.out.2.2).trans g3.out.2.2) g3.out.1)
 clear h g0 g1 g2 g3
 go_enter Tryz.func84, Tryz.ntmps84
 go_wp2_with fail
 go_end0
 exact ⟨rfl, R.out.1, R.out.2.trans (by obtain ⟨_, _, _, _, _, ⟨_, _, _⟩, _, _, _, _, _, _, ⟨_, _, _⟩, ⟨_, _, _⟩, _, _⟩ := x; rfl)⟩
end Go.Proofs.YthajalgkjonaaaaGreatDoor
namespace Lfc
mutual
def Ord.ofm (o : Int) : Ord → Bool
 | .node k a ps => if k = 1 then decide (1 ≤ a) && decide (a ≤ 64) && decide (ps.length = 0) else if k = 2 ∨ k = 3 then decide (a = 0) && decide (0 < ps.length) && decide (o + 1 < 128) && Ord.ofms (o + 1) ps else false
def Ord.ofms (o : Int) : List Ord → Bool
 | [] => true
 | a :: r => Ord.ofm o a && Ord.ofms o r
end
def namesF' (l : List (List UInt8)) : Bool := !l.any fun s => !isName s
def bndsF (l : List Bnd) : Bool := !l.any fun b => !isName b.1
def fordsF (l : List (List UInt8 × Ord)) : Bool := decide (0 < l.length) && !l.any fun x => !isName x.1 || !x.2.ofm 0
def signBad (i : Int) : Bool := decide (i < 1) || decide (3 < i)
end Lfc
namespace Go.Proofs.YthajalgkjonaaaaGreatDoor
open Go.RowKit
end Go.Proofs.YthajalgkjonaaaaGreatDoor
namespace Go.Proofs.YthajalgkjonaaaaGreatDoor
open Go.RowKit
section
variable {P : Program} (w : World)
theorem run_append_own_nilsrc (base : Nat) (t ty e : TypeId) (i : TypeInfo) (ht : P.underlying t = some (.slice e)) (hi : P.info? e = some i) (v : Value) (n : Nat) (xs : List Value) (hown : w.ownsRow base e i.size v n xs) (c : Nat) :
  (Builtin.append_ #[t, t] ty #[v, .slice none 0 c]).run P w = .ok v w := by
 rcases hown.2 with ⟨rfl, rfl⟩ | ⟨g, cap, cur, rfl, hbg, hg, hnc, hcm, hcs, htake⟩
 ·simp [Builtin.append_, run_underlying ht, sizeOf, typeInfo, hi, Builtin.lenOf, Builtin.firstCells, loadCells, loadCellsFrom]
 ·have hst := run_storeCells_at P g (n * i.size) e [] 0 cur w hg (by rw [hcs]; simp; exact Nat.mul_le_mul_right _ hnc) (by simp)
  have hset : w.setRow g cur = w := by
   unfold World.setRow
   congr 1
   apply Array.ext_getElem?
   intro j
   simp [Array.getElem?_modify]
   intro hj
   subst hj
   rw [hg]
   rfl
  simp at hst
  simp [Builtin.append_, run_underlying ht, sizeOf, typeInfo, hi, Builtin.lenOf, Builtin.firstCells, hnc, loadCells, loadCellsFrom, Addr.add_lit, hst, hset]
theorem run_append_own_any (base : Nat) (t ty e : TypeId) (i : TypeInfo) (z : Value) (size bytes : Nat) (ht : P.underlying t = some (.slice e)) (hi : P.info? e = some i) (hz : i.zero = some z)
  (hsize : i.size = size) (hby : i.bytes = bytes) (hzs : z.cells.size = size) (hsz : 0 < size)
  (v : Value) (n : Nat) (xs : List Value) (hown : w.ownsRow base e size v n xs)
  (A : Option Addr) (m c : Nat) (news : List Value) (hl : news.length = m * size) (hnews : m ≠ 0 → ∃ a, A = some a ∧ ∀ j u, news[j]? = some u → w.cell? (a.add j) = some u) (h1 : ∀ u ∈ news, u.oneCell' = true)
  (h63 : n + m ≤ maxLen) (hbytes : (n + m) * bytes ≤ 140737488355328) (hbase : base ≤ w.heap.size) :
  ∃ v' w', (Builtin.append_ #[t, t] ty #[v, .slice A m c]).run P w = .ok v' w' ∧ w'.ownsRow base e size v' (n + m) (xs ++ news) ∧ w.grownBy w' v.ownBlock ∧ (v'.ownBlock = v.ownBlock ∨ v'.ownBlock = some w.heap.size) := by
 rcases A with _ | a
 ·have hm : m = 0 := by
   by_cases e : m = 0
   ·exact e
   ·obtain ⟨a, h, _⟩ := hnews e; cases h
  subst hm
  have hn : news = [] := List.eq_nil_of_length_eq_zero (by simpa using hl)
  subst hn
  subst hsize
  exact ⟨v, w, run_append_own_nilsrc w base t ty e i ht hi v n xs hown c, by simpa using hown, ⟨rfl, rfl, rfl, Nat.le_refl _, fun _ _ _ => rfl⟩, .inl rfl⟩
 ·obtain ⟨v', w', hr, h2, h3, _, h5⟩ := run_append_own_at (P := P) w base t ty e i z size bytes ht hi hz hsize hby hzs hsz v n xs hown a m c news hl (fun j u hj => by
   by_cases hm : m = 0
   ·subst hm
    have hn : news = [] := List.eq_nil_of_length_eq_zero (by simpa using hl)
    subst hn
    simp at hj
   ·obtain ⟨a', ha, h⟩ := hnews hm
    cases ha
    exact h j u hj) h1 h63 hbytes hbase
  exact ⟨v', w', hr, h2, h3, h5⟩
theorem step_append_own_any {ops : Array Oper} {o : Oper} {a : Act} {K : Act → World → Prop} {Q : Exit → Act → World → Prop} {E : Prop} (hgd : o.guard = none) (s x : Operand) (t : TypeId)
  (ho : o.op = .call { callee := .builtin .append, args := #[s, x], argTypes := #[t, t] })
  (base : Nat) (e : TypeId) (i : TypeInfo) (z : Value) (size bytes : Nat) (ht : P.underlying t = some (.slice e)) (hi : P.info? e = some i) (hz : i.zero = some z)
  (hsize : i.size = size) (hby : i.bytes = bytes) (hzs : z.cells.size = size) (hsz : 0 < size)
  (v : Value) (n : Nat) (xs : List Value) (hs : a.eval s = v) (hown : w.ownsRow base e size v n xs)
  (A : Option Addr) (m c : Nat) (news : List Value) (hx : a.eval x = .slice A m c) (hl : news.length = m * size) (hnews : m ≠ 0 → ∃ a, A = some a ∧ ∀ j u, news[j]? = some u → w.cell? (a.add j) = some u) (h1 : ∀ u ∈ news, u.oneCell' = true)
  (h63 : n + m ≤ maxLen) (hbytes : (n + m) * bytes ≤ 140737488355328) (hbase : base ≤ w.heap.size)
  (h : ∀ v' w', w'.ownsRow base e size v' (n + m) (xs ++ news) → w.grownBy w' v.ownBlock → (v'.ownBlock = v.ownBlock ∨ v'.ownBlock = some w.heap.size) → K (a.put o.dst v') w') :
  if Region.wanted o (yielded ops a.tmps) = true then Oper.wp P o a w K Q else E := by
 have hw : Region.wanted o (yielded ops a.tmps) = true := by simp [Region.wanted, hgd]
 rw [if_pos hw]
 obtain ⟨v', w', hr, h2, h3, h5⟩ := run_append_own_any (P := P) w base t o.type e i z size bytes ht hi hz hsize hby hzs hsz v n xs hown A m c news hl hnews h1 h63 hbytes hbase
 unfold Oper.wp execOp
 simp only [ho, resolve, invoke, builtin, Sem.run_bind, Sem.run_pure, Result.andThen_ok, List.map_toArray, List.map_cons, List.map_nil, hs, hx, hr]
 exact h v' w' h2 h3 h5
theorem wpList_append_own_any {ops : Array Oper} {rest : List Oper} {o : Oper} {a : Act} {Q : Exit → Act → World → Prop} (hgd : o.guard = none) (s x : Operand) (t : TypeId)
  (ho : o.op = .call { callee := .builtin .append, args := #[s, x], argTypes := #[t, t] })
  (base : Nat) (e : TypeId) (i : TypeInfo) (z : Value) (size bytes : Nat) (ht : P.underlying t = some (.slice e)) (hi : P.info? e = some i) (hz : i.zero = some z)
  (hsize : i.size = size) (hby : i.bytes = bytes) (hzs : z.cells.size = size) (hsz : 0 < size)
  (v : Value) (n : Nat) (xs : List Value) (hs : a.eval s = v) (hown : w.ownsRow base e size v n xs)
  (A : Option Addr) (m c : Nat) (news : List Value) (hx : a.eval x = .slice A m c) (hl : news.length = m * size) (hnews : m ≠ 0 → ∃ a, A = some a ∧ ∀ j u, news[j]? = some u → w.cell? (a.add j) = some u) (h1 : ∀ u ∈ news, u.oneCell' = true)
  (h63 : n + m ≤ maxLen) (hbytes : (n + m) * bytes ≤ 140737488355328) (hbase : base ≤ w.heap.size)
  (h : ∀ v' w', w'.ownsRow base e size v' (n + m) (xs ++ news) → w.grownBy w' v.ownBlock → (v'.ownBlock = v.ownBlock ∨ v'.ownBlock = some w.heap.size) → wpList P ops Q rest (a.put o.dst v') w') :
  wpList P ops Q (o :: rest) a w := by
 refine wpList_plain hgd fun K hK => ?_
 obtain ⟨v', w', hr, h2, h3, h5⟩ := run_append_own_any (P := P) w base t o.type e i z size bytes ht hi hz hsize hby hzs hsz v n xs hown A m c news hl hnews h1 h63 hbytes hbase
 unfold Oper.wp execOp
 simp only [ho, resolve, invoke, builtin, Sem.run_bind, Sem.run_pure, Result.andThen_ok, List.map_toArray, List.map_cons, List.map_nil, hs, hx, hr]
 exact hK _ _ (h v' w' h2 h3 h5)
end
end Go.Proofs.YthajalgkjonaaaaGreatDoor
