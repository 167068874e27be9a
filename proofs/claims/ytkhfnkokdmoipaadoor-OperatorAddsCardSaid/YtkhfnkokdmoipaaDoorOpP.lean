/- The plain model of operators (layer 3), as the program resolves. No program in sight. -/
import Derived.Test.YtkhfnkokdmoipaaDoorRawPlain
set_option linter.unusedVariables false
set_option linter.unusedSimpArgs false
namespace Lfc

structure Op where
  name : List UInt8
  fix : Int
  prec : Int
structure Opd where
  tree : Raw
  closed : Bool
def arrR : List UInt8 := [45, 62]
def arrL : List UInt8 := [60, 45]
def rawZ : Raw := .node 0 [] 0 []
def opdZ : Opd := ⟨rawZ, false⟩
def Op.bad (o : Op) : Int := if !isName o.name || decide (o.fix < 1) || decide (5 < o.fix) then 1 else if decide (o.prec < 0) || decide (99 < o.prec) then 5 else 0
def Opd.arrow (x : Opd) : Bool := !x.closed && decide (x.tree.kind = 1) && decide (x.tree.args.length = 0) && (decide (x.tree.name = arrR) || decide (x.tree.name = arrL))
/-- The operator of a name. -/
def look (l : List Op) (n : List UInt8) : Option Op := if n = arrR then some ⟨[], 5, -1⟩ else if n = arrL then some ⟨[], 4, -1⟩ else l.find? (fun o => decide (o.name = n))
def opOf (l : List Op) (x : Opd) : Option Op := if x.closed || decide (x.tree.kind ≠ 1) then none else look l x.tree.name

structure LowS where
  at_ : List Nat
  first : Op
  same : Bool
def lowZ : LowS := ⟨[], ⟨[], 0, 0⟩, false⟩
def lowStep (st : LowS) (i : Nat) (o : Option Op) : LowS :=
  match o with
  | none => st
  | some o => if st.at_.length = 0 ∨ o.prec < st.first.prec then ⟨[i], o, true⟩ else if o.prec = st.first.prec then ⟨st.at_ ++ [i], st.first, st.same && decide (o.fix = st.first.fix)⟩ else st
def lowN (l : List Op) (st : LowS) : Nat → List Opd → LowS
  | _, [] => st
  | i, x :: r => lowN l (lowStep st i (opOf l x)) (i + 1) r
def low (l : List Op) (s : List Opd) : LowS := lowN l lowZ 0 s
theorem lowN_app (l : List Op) : ∀ (a b : List Opd) (st : LowS) (i : Nat), lowN l st i (a ++ b) = lowN l (lowN l st i a) (i + a.length) b
  | [], b, st, i => by simp [lowN]
  | x :: r, b, st, i => by
    rw [List.cons_append, lowN, lowN, lowN_app l r b]
    congr 1
    simp; omega
theorem low_succ (l : List Op) (s : List Opd) (j : Nat) (h : j < s.length) : low l (s.take (j + 1)) = lowStep (low l (s.take j)) j (opOf l s[j]) := by
  unfold low
  rw [List.take_succ_eq_append_getElem h, lowN_app]
  simp only [lowN, List.length_take, Nat.zero_add]
  rw [Nat.min_eq_left (by omega)]
/-- The places: rising, below a bound. -/
def Places (n : Nat) (l : List Nat) : Prop := l.Pairwise (· < ·) ∧ ∀ i ∈ l, i < n
theorem low_places (l : List Op) (s : List Opd) : ∀ j, j ≤ s.length → Places j (low l (s.take j)).at_
  | 0, _ => by simp [low, lowN, lowZ, Places]
  | j + 1, h => by
    have ih := low_places l s j (by omega)
    rw [low_succ l s j (by omega)]
    unfold lowStep
    cases opOf l s[j] with
    | none => exact ⟨ih.1, fun i hi => by have := ih.2 i hi; omega⟩
    | some o =>
      simp only
      split
      · exact ⟨by simp, fun i hi => by simp at hi; omega⟩
      · split
        · refine ⟨?_, fun i hi => ?_⟩
          · show List.Pairwise (· < ·) (_ ++ [j])
            rw [List.pairwise_append]
            exact ⟨ih.1, by simp, fun a ha b hb => by simp at hb; subst hb; exact ih.2 a ha⟩
          · rw [List.mem_append] at hi
            rcases hi with hi | hi
            · have := ih.2 i hi; omega
            · simp at hi; omega
        · exact ⟨ih.1, fun i hi => by have := ih.2 i hi; omega⟩
theorem low_at (l : List Op) (s : List Opd) : Places s.length (low l s).at_ := by
  have := low_places l s s.length (Nat.le_refl _)
  rwa [List.take_length] at this

def appT (f a : Raw) : Raw := .node 5 [] f.pos [f, a]
def joinT (o a b : Raw) : Raw := if o.name = arrR then .node 6 [] o.pos [a, b] else if o.name = arrL then .node 6 [] o.pos [b, a] else appT (appT o a) b
def appAll (s : List Opd) : Raw := (s.drop 1).foldl (fun t x => appT t x.tree) (s.getD 0 opdZ).tree
/-- The parts between the places. -/
def segs (s : List Opd) : Nat → List Nat → List (List Opd)
  | _, [] => []
  | b, e :: r => (s.take e).drop b :: segs s (e + 1) r
def allOk (g : List Opd → Except Int Raw) : List (List Opd) → Except Int (List Raw)
  | [] => .ok []
  | x :: r => match g x with
    | .error e => .error e
    | .ok t => match allOk g r with
      | .error e => .error e
      | .ok ts => .ok (t :: ts)
def joinR (z : Raw) : List Raw → List Raw → Raw
  | o :: os, p :: ps => joinT o p (joinR z os ps)
  | _, p :: _ => p
  | _, [] => z
def joinL (t : Raw) (l : List (Raw × Raw)) : Raw := l.foldl (fun t x => joinT x.1 t x.2) t
def opTrees (s : List Opd) (at_ : List Nat) : List Raw := at_.map fun i => (s.getD i opdZ).tree
def joined (fix : Int) (ops parts : List Raw) : Raw := if fix = 5 then joinR rawZ ops parts else joinL (parts.getD 0 rawZ) (ops.zip (parts.drop 1))
def binT (g : List Opd → Except Int Raw) (s : List Opd) (at_ : List Nat) (fix : Int) : Except Int Raw :=
  match allOk g (segs s 0 (at_ ++ [s.length])) with
  | .error e => .error e
  | .ok parts => .ok (joined fix (opTrees s at_) parts)
def unT (g : List Opd → Except Int Raw) (o : Raw) (rest : List Opd) (there : Bool) : Except Int Raw :=
  if there then (match g rest with
    | .error e => .error e
    | .ok t => .ok (appT o t)) else .error 21
def lastOf (l : List Nat) : Nat := l.getD (l.length - 1) 0
def resBody (l : List Op) (g : List Opd → Except Int Raw) (s : List Opd) : Except Int Raw :=
  if (low l s).at_.length = 0 then .ok (appAll s)
  else if (low l s).same = false then .error 22
  else if (low l s).first.fix = 1 then unT g (s.getD ((low l s).at_.getD 0 0) opdZ).tree (s.drop 1) (decide ((low l s).at_.getD 0 0 = 0))
  else if (low l s).first.fix = 2 then unT g (s.getD (lastOf (low l s).at_) opdZ).tree (s.take (s.length - 1)) (decide (lastOf (low l s).at_ = s.length - 1))
  else if (low l s).first.fix = 3 ∧ 1 < (low l s).at_.length then .error 22
  else binT g s (low l s).at_ (low l s).first.fix
def resP (l : List Op) : Nat → List Opd → Except Int Raw
  | 0, _ => .error 21
  | m + 1, s => if s.length = 0 then .error 21 else resBody l (resP l m) s
/-- What Resolve answers. -/
def resolved (l : List Op) (s : List Opd) : Raw × Int :=
  if l.any (fun o => decide (o.bad ≠ 0)) then (rawZ, 1)
  else if s.any (fun x => !x.arrow && decide (x.tree.wf = 1)) then (rawZ, 1)
  else if s.any (fun x => !x.arrow && decide (x.tree.wf = 2)) then (rawZ, 2)
  else if s.length = 1 then (if (s.getD 0 opdZ).arrow then (rawZ, 21) else ((s.getD 0 opdZ).tree, 0))
  else match resP l s.length s with
    | .error e => (rawZ, e)
    | .ok t => if t.wf = 0 then (t, 0) else (rawZ, 2)
def added (l : List Op) (o : Op) : List Op × Int :=
  if o.bad ≠ 0 then (l, o.bad) else if l.any (fun x => decide (x.name = o.name)) then (l, 30) else if 512 ≤ l.length then (l, 7) else (l ++ [o], 0)
end Lfc
