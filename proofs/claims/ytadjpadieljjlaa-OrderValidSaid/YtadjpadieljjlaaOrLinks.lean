/- The contracts of slices.Clone at numbers and of links. -/
import Derived.Test.YtadjpadieljjlaaOrChk
import Derived.Test.YtadjpadieljjlaaStepApp
import Derived.Test.YtadjpadieljjlaaShelf
import Derived.Deep.RegionHeld3
set_option linter.unusedVariables false
set_option linter.unusedSimpArgs false
namespace Go.Proofs.Ytadjpadieljjlaa
open Go.RowKit Go.Maps
theorem own_le {w : World} {base : Nat} {e : TypeId} {size n m c : Nat} {A : Option Addr} {xs : List Value} (h : w.ownsRow base e size (.slice A n c) m xs) : n = m ∧ m ≤ c := by
  rcases h.2 with ⟨h0, h1⟩ | ⟨g, cap, cur, hv, _, _, hnc, _⟩
  · injection h0 with _ e1 e2; omega
  · injection hv with _ e1 e2; omega
theorem own_form {w : World} {base : Nat} {e : TypeId} {size n : Nat} {v : Value} {xs : List Value} (h : w.ownsRow base e size v n xs) : ∃ A c, v = .slice A n c ∧ n ≤ c := by
  rcases h.2 with ⟨rfl, rfl⟩ | ⟨g, cap, cur, rfl, _, _, hnc, _⟩
  · exact ⟨none, 0, rfl, Nat.le_refl _⟩
  · exact ⟨_, _, rfl, hnc⟩
theorem cloneInts_any (zs : List Int) (A : Option Addr) (c : Nat) (w : World) (hl : zs.length ≤ 10000000) (h : IntsO w A zs) :
    Calls Try.prog 65 #[.slice A zs.length c] w fun e w' => (∃ A' c', e = .returned (.slice A' zs.length c') ∧ zs.length ≤ c' ∧ IntsP (fun b => w.heap.size ≤ b) w' A' zs) ∧ Below w.heap.size w w' := by
  have fin : ∀ e w', (∃ v', e = Ending.returned v' ∧ w'.ownsRow w.heap.size 3 1 v' zs.length (ints zs) ∧ v' ≠ .slice none 0 0 ∧ Below w.heap.size w w') → (∃ A' c', e = .returned (.slice A' zs.length c') ∧ zs.length ≤ c' ∧ IntsP (fun b => w.heap.size ≤ b) w' A' zs) ∧ Below w.heap.size w w' := by
    rintro e w' ⟨v', rfl, hown, _, hb⟩
    obtain ⟨A', c', rfl, hc⟩ := own_form hown
    exact ⟨⟨A', c', rfl, hc, intsP_own hown⟩, hb⟩
  by_cases h0 : zs = []
  · subst h0
    cases A with
    | none =>
      refine (Try.slices_Clone_int_nil 0 c w).mono ?_
      rintro e w' ⟨rfl, rfl⟩
      exact ⟨⟨none, 0, rfl, Nat.le_refl _, fun h => absurd rfl h⟩, Below.refl _ _⟩
    | some a => exact (Try.slices_Clone_int_zero a c w).mono fin
  · obtain ⟨b, o, rfl, hlt, hc⟩ := h h0
    refine (Try.slices_Clone_int b o zs.length c zs w (Nat.le_refl _) (by omega) hc).mono ?_
    rintro e w' ⟨v', he, hown, h1, h2⟩
    rw [List.take_length] at hown
    exact fin e w' ⟨v', he, hown, h1, h2⟩
/-- The cells of links. -/
def LinkRow (q : Nat → Prop) (w : World) : List Lfc.Link → List Value → Prop
  | [], xs => xs = []
  | x :: r, xs => ∃ k n p ts At ct A c ys, x.term = .node k n p ts ∧ xs = .int .i64 x.kind :: .int .i64 k :: S n :: .int .i64 p :: .slice At (List.length ts) ct :: .slice A x.path.length c :: .int .i64 x.fact :: ys ∧ x.path.length ≤ c ∧ IntsP q w A x.path ∧ TreeVP q w x.term (.agg #[.int .i64 k, S n, .int .i64 p, .slice At (List.length ts) ct]) ∧ LinkRow q w r ys
theorem LinkRow.len {q : Nat → Prop} {w : World} : ∀ {l : List Lfc.Link} {xs : List Value}, LinkRow q w l xs → xs.length = l.length * 7
  | [], xs, h => by rw [LinkRow] at h; subst h; rfl
  | x :: r, xs, h => by
    rw [LinkRow] at h
    obtain ⟨k, n, p, ts, At, ct, A, c, ys, _, rfl, _, _, _, hr⟩ := h
    have := hr.len
    simp; omega
theorem LinkRow.keep {q q' : Nat → Prop} {w w' : World} (hk : ∀ b, q b → b < w.heap.size → w'.heap[b]? = w.heap[b]?) (hs : w.heap.size ≤ w'.heap.size) (hq : ∀ b, b < w.heap.size → q b → q' b) : ∀ {l : List Lfc.Link} {xs : List Value}, LinkRow q w l xs → LinkRow q' w' l xs
  | [], xs, h => by rw [LinkRow] at h ⊢; exact h
  | x :: r, xs, h => by
    rw [LinkRow] at h ⊢
    obtain ⟨k, n, p, ts, At, ct, A, c, ys, e, rfl, hc, hi, ht, hr⟩ := h
    exact ⟨k, n, p, ts, At, ct, A, c, ys, e, rfl, hc, hi.keep hk hs hq, ht.keep hk hs hq, hr.keep hk hs hq⟩
theorem LinkRow.append {q : Nat → Prop} {w : World} {m : List Lfc.Link} {zs : List Value} (hz : LinkRow q w m zs) : ∀ {l : List Lfc.Link} {xs : List Value}, LinkRow q w l xs → LinkRow q w (l ++ m) (xs ++ zs)
  | [], xs, h => by rw [LinkRow] at h; subst h; exact hz
  | x :: r, xs, h => by
    rw [LinkRow] at h
    obtain ⟨k, n, p, ts, At, ct, A, c, ys, e, rfl, hc, hi, ht, hr⟩ := h
    rw [List.cons_append, LinkRow]
    exact ⟨k, n, p, ts, At, ct, A, c, ys ++ zs, e, rfl, hc, hi, ht, LinkRow.append hz hr⟩
theorem LinkRow.lie {q : Nat → Prop} {w : World} {b : Nat} : ∀ {l : List Lfc.Link} {xs : List Value} {o : Nat}, LinkRow q w l xs → CellsAt w b o xs → ∀ i (h : i < l.length), LinkP q w b (o + i * 7) l[i]
  | [], _, _, _, _, i, h => by cases h
  | x :: r, xs, o, h, hc, i, hi => by
    rw [LinkRow] at h
    obtain ⟨k, n, p, ts, At, ct, A, c, ys, e, rfl, hcl, hp, ht, hr⟩ := h
    cases i with
    | zero =>
      exact ⟨k, n, p, ts, At, ct, A, c, e, by simpa using hc 0 _ rfl, by simpa using hc 1 _ rfl, by simpa using hc 2 _ rfl, by simpa using hc 3 _ rfl, by simpa using hc 4 _ rfl, by simpa using hc 5 _ rfl, by simpa using hc 6 _ rfl, hcl, hp, ht⟩
    | succ i =>
      have := hr.lie (o := o + 7) (fun j u hj => by
        have := hc (j + 7) u (by simpa using hj)
        rw [show o + 7 + j = o + (j + 7) by omega]
        exact this) i (by simpa using hi)
      rw [show o + (i + 1) * 7 = o + 7 + i * 7 by omega]
      exact this
theorem linksP_own {q : Nat → Prop} {w : World} {base : Nat} {A : Option Addr} {n c : Nat} {xs : List Value} {l : List Lfc.Link} (h : w.ownsRow base 104 7 (.slice A n c) l.length xs) (hq : ∀ b, base ≤ b → q b) (hr : LinkRow q w l xs) : LinksP q w A l := fun hne => by
  rcases h.2 with ⟨_, h0⟩ | ⟨g, cap, cur, hv, hb, hg, _⟩
  · exact absurd (List.length_eq_zero_iff.1 h0) hne
  · injection hv with hA h1 h2
    subst hA h1 h2
    exact ⟨g, 0, rfl, lt_of_block hg, hq g hb, hr.lie (own_cells h)⟩
theorem linkInfo : (Try.prog.info? 104).map (fun i => (i.zero, i.size, i.bytes)) = some (some (.agg #[.int .i64 0, .int .i64 0, S [], .int .i64 0, .slice none 0 0, .slice none 0 0, .int .i64 0]), 7, 96) := by kernel_rfl
end Go.Proofs.Ytadjpadieljjlaa
