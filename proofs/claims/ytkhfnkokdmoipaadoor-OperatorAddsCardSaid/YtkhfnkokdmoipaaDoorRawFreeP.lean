/- The plain model of a tree's free names. No program in sight. -/
import Derived.Test.YtkhfnkokdmoipaaDoorRawText
set_option linter.unusedVariables false
set_option linter.unusedSimpArgs false
namespace Lfc

def addN (n : List UInt8) (out : List (List UInt8)) : List (List UInt8) := if n ∈ out then out else out ++ [n]
mutual
/-- The names found, behind those found already, under these binders. -/
def Raw.fr (bound : List (List UInt8)) : Raw → List (List UInt8) → List (List UInt8)
  | .node k n _ ts, out =>
    if k = 1 then (if n ∈ bound then out else addN n out)
    else if k = 2 then addN n out
    else if k = 7 ∨ k = 8 then Raw.frB bound n ts out
    else Raw.frs bound ts out
def Raw.frs (bound : List (List UInt8)) : List Raw → List (List UInt8) → List (List UInt8)
  | [], out => out
  | a :: r, out => Raw.frs bound r (Raw.fr bound a out)
def Raw.frB (bound : List (List UInt8)) (n : List UInt8) : List Raw → List (List UInt8) → List (List UInt8)
  | [], out => out
  | [a], out => Raw.fr (bound ++ [n]) a out
  | a :: a' :: _, out => Raw.fr (bound ++ [n]) a' (Raw.fr bound a out)
end
def Raw.freeN (t : Raw) : List (List UInt8) := if t.wf = 0 then Raw.fr [] t [] else []

theorem addN_len (n : List UInt8) (out : List (List UInt8)) : (addN n out).length ≤ out.length + 1 := by
  unfold addN; split <;> simp
mutual
theorem fr_len : ∀ (t : Raw) (bound out : List (List UInt8)), (Raw.fr bound t out).length ≤ out.length + t.size
  | .node k n p ts, bound, out => by
    have h1 := frs_len ts bound out
    have h2 := frB_len ts bound n out
    have h3 := addN_len n out
    simp only [Raw.fr, Raw.size]
    split
    · split <;> omega
    split
    · omega
    split
    · omega
    · omega
theorem frs_len : ∀ (ts : List Raw) (bound out : List (List UInt8)), (Raw.frs bound ts out).length ≤ out.length + Raw.sizes ts
  | [], _, _ => by simp [Raw.frs, Raw.sizes]
  | a :: r, bound, out => by
    have h1 := fr_len a bound out
    have h2 := frs_len r bound (Raw.fr bound a out)
    simp only [Raw.frs, Raw.sizes]
    omega
theorem frB_len : ∀ (ts : List Raw) (bound : List (List UInt8)) (n : List UInt8) (out : List (List UInt8)), (Raw.frB bound n ts out).length ≤ out.length + Raw.sizes ts
  | [], _, _, _ => by simp [Raw.frB, Raw.sizes]
  | [a], bound, n, out => by
    have h1 := fr_len a (bound ++ [n]) out
    simp only [Raw.frB, Raw.sizes]
    omega
  | a :: a' :: r, bound, n, out => by
    have h1 := fr_len a bound out
    have h2 := fr_len a' (bound ++ [n]) (Raw.fr bound a out)
    simp only [Raw.frB, Raw.sizes]
    omega
end
end Lfc
