/- The plain model of a tree's text. No program in sight. -/
import Derived.Test.YtkhfnkokdmoipaaDoorRawMem
set_option linter.unusedVariables false
set_option linter.unusedSimpArgs false
namespace Lfc

/-- One or two parts with something around and between them. -/
def twoText (o m e : List UInt8) : List (List UInt8) → List UInt8
  | [a] => o ++ a ++ e
  | [a, b] => o ++ a ++ m ++ b ++ e
  | _ => []
def bindText (n o e : List UInt8) : List (List UInt8) → List UInt8
  | [a] => [40] ++ o ++ n ++ (e ++ [32]) ++ a ++ [41]
  | [a, b] => [40] ++ o ++ n ++ [58] ++ a ++ (e ++ [32]) ++ b ++ [41]
  | _ => []
def putText (q : List (List UInt8)) (k : Int) (n : List UInt8) (xs : List (List UInt8)) : List UInt8 :=
  if k = 1 then (if n ∈ q then [40] ++ n ++ [41] else n)
  else if k = 2 then [64] ++ n
  else if k = 3 then [95]
  else if k = 4 then [116, 121, 112, 101]
  else if k = 5 then twoText [40] [32] [41] xs
  else if k = 6 then twoText [40] [32, 45, 62, 32] [41] xs
  else if k = 7 then bindText n [123] [125] xs
  else if k = 8 then bindText n [91] [93] xs
  else if k = 9 then twoText [40] [32, 58, 32] [41] xs
  else []
mutual
def Raw.text (q : List (List UInt8)) : Raw → List UInt8
  | .node k n _ ts => putText q k n (Raw.texts q ts)
def Raw.texts (q : List (List UInt8)) : List Raw → List (List UInt8)
  | [] => []
  | a :: r => Raw.text q a :: Raw.texts q r
end
theorem texts_len (q : List (List UInt8)) (ts : List Raw) : (Raw.texts q ts).length = ts.length := by
  induction ts with
  | nil => rfl
  | cons a r ih => simp [Raw.texts, ih]

mutual
/-- All names have at most so many bytes. -/
def Raw.short (s : Nat) : Raw → Prop
  | .node _ n _ ts => n.length ≤ s ∧ Raw.shorts s ts
def Raw.shorts (s : Nat) : List Raw → Prop
  | [] => True
  | a :: r => Raw.short s a ∧ Raw.shorts s r
end
theorem putText_len (q : List (List UInt8)) (k : Int) (n : List UInt8) (xs : List (List UInt8)) (z : Nat) (hx : xs.flatten.length ≤ z) : (putText q k n xs).length ≤ n.length + 20 + z := by
  have h2 : ∀ (o m e : List UInt8), o.length + m.length + e.length ≤ 20 → (twoText o m e xs).length ≤ 20 + z := by
    intro o m e h
    unfold twoText
    split
    · simp at hx ⊢; omega
    · simp at hx ⊢; omega
    · simp
  have h3 : ∀ (o e : List UInt8), o.length + e.length ≤ 15 → (bindText n o e xs).length ≤ n.length + 20 + z := by
    intro o e h
    unfold bindText
    split
    · simp at hx ⊢; omega
    · simp at hx ⊢; omega
    · simp
  unfold putText
  split
  · split <;> simp <;> omega
  split
  · simp; omega
  split
  · simp; omega
  split
  · simp; omega
  split
  · have := h2 [40] [32] [41] (by simp); omega
  split
  · have := h2 [40] [32, 45, 62, 32] [41] (by simp); omega
  split
  · exact h3 [123] [125] (by simp)
  split
  · exact h3 [91] [93] (by simp)
  split
  · have := h2 [40] [32, 58, 32] [41] (by simp); omega
  · simp

mutual
theorem text_len (q : List (List UInt8)) (s : Nat) : ∀ (t : Raw), t.short s → (t.text q).length ≤ t.size * (s + 20)
  | .node k n p ts, h => by
    rw [Raw.short] at h
    have h1 := texts_flat q s ts h.2
    have h2 := putText_len q k n _ _ h1
    simp only [Raw.text, Raw.size, Nat.add_mul, Nat.one_mul] at h2 ⊢
    omega
theorem texts_flat (q : List (List UInt8)) (s : Nat) : ∀ (ts : List Raw), Raw.shorts s ts → (Raw.texts q ts).flatten.length ≤ Raw.sizes ts * (s + 20)
  | [], _ => by simp [Raw.texts, Raw.sizes]
  | a :: r, h => by
    rw [Raw.shorts] at h
    have h1 := text_len q s a h.1
    have h2 := texts_flat q s r h.2
    simp only [Raw.texts, Raw.sizes, List.flatten_cons, List.length_append, Nat.add_mul] at h2 ⊢
    omega
end
end Lfc
namespace Go.Proofs.YtkhfnkokdmoipaaDoor
open Go.RowKit
mutual
theorem TreeC.short {w : World} : ∀ (t : Lfc.Raw) (v0 v1 v2 v3 : Value), TreeC w t v0 v1 v2 v3 → t.short 1000000
  | .node k n p ts, v0, v1, v2, v3, h => by
    rw [TreeC] at h
    obtain ⟨_, _, hn, _, A, c, _, _, h5⟩ := h
    rw [Lfc.Raw.short]
    refine ⟨hn, ?_⟩
    cases ts with
    | nil => rw [Lfc.Raw.shorts]; trivial
    | cons a r =>
      obtain ⟨b, o, _, _, hts⟩ := h5 (by simp)
      exact TreesO.short (a :: r) b o hts
theorem TreesO.short {w : World} : ∀ (ts : List Lfc.Raw) (b o : Nat), TreesO w b ts o → Lfc.Raw.shorts 1000000 ts
  | [], _, _, _ => by rw [Lfc.Raw.shorts]; trivial
  | t :: r, b, o, h => by
    rw [TreesO] at h
    obtain ⟨⟨v0, v1, v2, v3, _, _, _, _, ht⟩, hr⟩ := h
    rw [Lfc.Raw.shorts]
    exact ⟨TreeC.short t v0 v1 v2 v3 ht, TreesO.short r b (o + 4) hr⟩
end
theorem TreeV.short {w : World} {t : Lfc.Raw} {v : Value} (h : TreeV w t v) : t.short 1000000 := by
  obtain ⟨v0, v1, v2, v3, _, h⟩ := h
  exact TreeC.short t v0 v1 v2 v3 h
end Go.Proofs.YtkhfnkokdmoipaaDoor
