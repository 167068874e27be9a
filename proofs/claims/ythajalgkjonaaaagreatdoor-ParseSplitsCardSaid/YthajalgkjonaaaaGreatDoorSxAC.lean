/- Parts of the proof that no input makes the law false: TokLaw2, PaTok, PaErr, PaIt, PaItB. -/
import Derived.Test.YthajalgkjonaaaaGreatDoorSxAA
import Derived.Test.YthajalgkjonaaaaGreatDoorSxAB
set_option linter.unusedVariables false
set_option linter.unusedSimpArgs false
namespace Lfc
theorem lex_sc (l : List UInt8) (h : l.length ≤ 65536) (hb : brk false l ≤ 20000) : lex l = if (sc 0 l).2.1 = 0 then ((sc 0 l).1, (sc 0 l).2) else ([], (sc 0 l).2) := by
 rw [lex_eq, if_neg (by omega), lexR_sc l 0 [] (by simpa using hb)]
 simp
theorem lex_sc' (l : List UInt8) (h : l.length ≤ 65536) (hb : brk false l ≤ 20000) : lex l = sc 0 l := by
 rw [lex_sc l h hb]
 split
 ·rfl
 ·rename_i h0; exact Prod.ext (sc_none l 0 h0).symm rfl
theorem cmt_app : ∀ (n : Nat) (l : List UInt8), l.length ≤ n → ∀ (d : Nat) (r z : List UInt8), cmt d l = some r → cmt d (l ++ z) = some (r ++ z) := by
 intro n
 induction n with
 | zero => intro l hl d r z h; obtain rfl := List.eq_nil_of_length_eq_zero (by omega : l.length = 0); simp [cmt] at h
 | succ n ih =>
  intro l hl d r z h
  match l, hl, h with
  | [], _, h => simp [cmt] at h
  | [a], _, h => simp [cmt] at h
  | a :: b :: t, hl, h =>
   simp only [List.length_cons] at hl
   simp only [List.cons_append]
   rw [cmt] at h ⊢
   split at h
   ·rename_i h1; rw [if_pos h1]; exact ih t (by omega) _ _ z h
   ·rename_i h1
    rw [if_neg h1]
    split at h
    ·rename_i h2
     rw [if_pos h2]
     split at h
     ·rename_i h3; rw [if_pos h3]; cases h; rfl
     ·rename_i h3; rw [if_neg h3]; exact ih t (by omega) _ _ z h
    ·rename_i h2
     rw [if_neg h2]
     exact ih (b :: t) (by simp; omega) _ _ z h
theorem runLen_more (p : UInt8 → Bool) (a : List UInt8) (b : UInt8) (z : List UInt8) (h : p b = false ∨ runLen p a < a.length) : runLen p (a ++ b :: z) = runLen p a := by
 induction a with
 | nil =>
  rcases h with h | h
  ·simp [runLen, h]
  ·simp [runLen] at h
 | cons c r ih =>
  rw [List.cons_append, runLen, runLen]
  split
  ·rename_i hc
   rw [ih]
   rcases h with h | h
   ·exact .inl h
   ·rw [runLen, if_pos hc] at h; simp at h; exact .inr h
  ·rfl
theorem take_runLen (p : UInt8 → Bool) (a z : List UInt8) : (a ++ z).take (runLen p a) = a.take (runLen p a) := by
 rw [List.take_append_of_le_length (runLen_le p a)]
theorem nx_app (c : UInt8) (r : List UInt8) (b : UInt8) (z : List UInt8) (hb : nameB b = false) (h11 : (nx (c :: r)).err ≠ 11) (hlast : b.toNat = 10 ∨ (nx (c :: r)).err ≠ 0 ∨ (nx (c :: r)).len < r.length + 1) (h123 : b.toNat ≠ 123) :
  nx (c :: r ++ b :: z) = nx (c :: r) := by
 have hbl : letterB b = false := by
  cases hh : letterB b
  ·rfl
  ·rw [letter_name b hh] at hb; cases hb
 rw [List.cons_append]
 simp only [nx] at h11 hlast ⊢
 split
 ·rfl
 ·rename_i hbc
  rw [if_neg hbc] at h11 hlast
  split
  ·rename_i h37
   rw [if_pos h37] at h11 hlast
   match r with
   | [] =>
    simp only [pc, List.nil_append]
    rw [if_neg h123, if_pos (by simp [runLen, hbl])]
    simp only [pc] at hlast
    have h10 : b.toNat = 10 := by
     rcases hlast with h | h | h
     ·exact h
     ·simp at h
     ·simp at h
    simp [runLen, notNlB, h10]
   | d :: r' =>
    simp only [pc, List.cons_append] at h11 hlast ⊢
    split
    ·rename_i hd
     rw [if_pos hd] at h11
     cases hc : cmt 1 r' with
     | none => rw [hc] at h11; simp at h11
     | some t =>
      rw [cmt_app _ r' (Nat.le_refl _) 1 t (b :: z) hc]
      simp
      omega
    ·rename_i hd
     rw [if_neg hd] at h11 hlast
     have e1 : runLen letterB (d :: (r' ++ b :: z)) = runLen letterB (d :: r') := runLen_more letterB (d :: r') b z (.inl hbl)
     have e2 : (d :: (r' ++ b :: z)).take (runLen letterB (d :: r')) = (d :: r').take (runLen letterB (d :: r')) := take_runLen letterB (d :: r') (b :: z)
     rw [e1]
     split
     ·rename_i h0
      rw [if_pos h0] at hlast
      have e3 : runLen notNlB (d :: (r' ++ b :: z)) = runLen notNlB (d :: r') := by
       refine runLen_more notNlB (d :: r') b z ?_
       rcases hlast with h | h | h
       ·exact .inl (by simp [notNlB, h])
       ·simp at h
       ·exact .inr (by simp at h ⊢; omega)
      rw [e3]
     ·rw [e2]
  ·split
   ·have e1 : runLen nameB (c :: (r ++ b :: z)) = runLen nameB (c :: r) := runLen_more nameB (c :: r) b z (.inl hb)
    have e2 : (c :: (r ++ b :: z)).take (runLen nameB (c :: r)) = (c :: r).take (runLen nameB (c :: r)) := take_runLen nameB (c :: r) (b :: z)
    rw [e1, e2]
   ·rfl
theorem sc_join (s t : List UInt8) : ∀ n, (sc n s).2.1 = 0 → sc n (s ++ 10 :: t) = if (sc (n + s.length + 1) t).2.1 = 0 then ((sc n s).1 ++ (sc (n + s.length + 1) t).1, (sc (n + s.length + 1) t).2) else ([], (sc (n + s.length + 1) t).2) := by
 have hx : nx (10 :: t) = ⟨0, [], 1, 0⟩ := by simp only [nx]; rw [if_pos (by decide)]
 induction s using item_induct with
 | h0 =>
  intro n _
  rw [List.nil_append, sc_ok _ _ _ (by rw [hx]), hx]
  simp only [put, List.drop_succ_cons, List.drop_zero, sc_nil, List.nil_append, List.length_nil, Nat.add_zero, if_true]
  split
  ·rfl
  ·rename_i h0; exact Prod.ext (sc_none t _ h0) rfl
 | h1 c r he => intro n h; rw [sc_err _ _ _ he] at h; exact absurd h he
 | h2 c r he ih =>
  intro n h
  have hl := nx_len c r he
  have e : nx (c :: r ++ 10 :: t) = nx (c :: r) := nx_app c r 10 t (by decide) (by rw [he]; decide) (.inl (by decide)) (by decide)
  have e' : nx (c :: (r ++ 10 :: t)) = nx (c :: r) := e
  rw [sc_ok _ _ _ he, put_snd] at h
  rw [List.cons_append, sc_ok _ _ _ (by rw [e']; exact he), e', sc_ok _ _ _ he]
  have ed : (c :: (r ++ 10 :: t)).drop (nx (c :: r)).len = (c :: r).drop (nx (c :: r)).len ++ 10 :: t := by
   rw [← List.cons_append, List.drop_append_of_le_length (by simp; omega)]
  have hn : n + (nx (c :: r)).len + ((c :: r).drop (nx (c :: r)).len).length + 1 = n + (c :: r).length + 1 := by rw [List.length_drop, List.length_cons]; omega
  rw [ed, ih _ h, hn]
  by_cases h0 : (sc (n + (c :: r).length + 1) t).2.1 = 0
  ·rw [if_pos h0, if_pos h0]
   refine Prod.ext ?_ (put_snd _ _ _)
   rw [put_fst]
   case h => exact h0
   rw [put_fst _ _ _ h]
   simp
  ·rw [if_neg h0, if_neg h0]
   exact put_none _ _ _ h0 rfl
def shift (d : Nat) (y : List Tok × Int × Nat) : List Tok × Int × Nat := (y.1.map fun t => ⟨t.kind, t.text, t.pos + d⟩, y.2.1, y.2.2 + d)
theorem sc_shift (d : Nat) (l : List UInt8) : ∀ n, sc (n + d) l = shift d (sc n l) := by
 induction l using item_induct with
 | h0 => intro n; rfl
 | h1 c r he => intro n; rw [sc_err _ _ _ he, sc_err _ _ _ he]; rfl
 | h2 c r he ih =>
  intro n
  rw [sc_ok _ _ _ he, sc_ok _ _ _ he, show n + d + (nx (c :: r)).len = n + (nx (c :: r)).len + d by omega, ih]
  unfold put
  split
  ·rfl
  ·simp only [shift]
   split
   ·rename_i h; simp [h]
   ·rename_i h; simp [h]
theorem sc_blank (n : Nat) (c : UInt8) (r : List UInt8) (h : blankB c = true) : sc n (c :: r) = sc (n + 1) r := by
 have e : nx (c :: r) = ⟨0, [], 1, 0⟩ := by simp only [nx]; rw [h, if_pos rfl]
 rw [sc_ok _ _ _ (by rw [e]), e]
 simp [put]
end Lfc
namespace Lfc
theorem lexF_ok : ∀ (f n : Nat) (l : List UInt8) (acc : List Tok), acc.length ≤ 20000 → (∀ t ∈ acc, valid t) → (lexF f n l acc).2.1 = 0 → (lexF f n l acc).1.length ≤ 20000 ∧ ∀ t ∈ (lexF f n l acc).1, valid t
 | 0, n, l, acc, h1, h2, _ => ⟨h1, h2⟩
 | f + 1, n, [], acc, h1, h2, _ => ⟨h1, h2⟩
 | f + 1, n, c :: r, acc, h1, h2, h3 => by
  rw [lexF] at h3 ⊢
  split at h3
  ·rename_i he; exact absurd h3 he
  rename_i he
  rw [if_neg he]
  split at h3
  ·rename_i hk
   rw [if_pos hk]
   exact lexF_ok f _ _ acc h1 h2 h3
  rename_i hk
  rw [if_neg hk]
  split at h3
  ·simp at h3
  rename_i ha
  rw [if_neg ha]
  refine lexF_ok f _ _ _ (by rw [List.length_append]; simp; omega) (fun t ht => ?_) h3
  rcases List.mem_append.1 ht with ht | ht
  ·exact h2 t ht
  ·simp at ht
   subst ht
   exact (nx_valid c r n (Decidable.byContradiction he) hk).1
theorem lex_good {l : List UInt8} (h : (lex l).2.1 = 0) : l.length ≤ 65536 ∧ (lex l).1.length ≤ 20000 ∧ ∀ t ∈ (lex l).1, valid t := by
 unfold lex at h ⊢
 split at h
 ·simp at h
 ·rename_i hl
  rw [if_neg hl]
  exact ⟨by omega, lexF_ok _ _ _ _ (by simp) (by simp) h⟩
theorem valid_le {t : Tok} (h : valid t) : t.text.length ≤ 64 ∧ t.text ≠ [] := by
 rcases h with ⟨_, h1, h2, _⟩ | ⟨_, c, _, h⟩ | ⟨_, h1, h2, _⟩
 ·exact ⟨h2, h1⟩
 ·rw [h]; simp
 ·exact ⟨h2, h1⟩
end Lfc
namespace Lfc
def NzE {α : Type} (r : PR α) : Prop := ∀ c a, r = .err c a → c ≠ 0
theorem NzE.ok {α : Type} (x : α) (k : Nat) : NzE (.ok x k : PR α) := fun _ _ h => by cases h
theorem NzE.then {α β : Type} {r : PR α} {f : α → Nat → PR β} (h : NzE r) (hf : ∀ x k, NzE (f x k)) : NzE (r.then f) := by
 cases r with
 | out => intro c a e; cases e
 | err c' a' => intro c a e; cases e; exact h _ _ rfl
 | ok x k => exact hf x k
theorem nz_unexp {α : Type} (p : PE) (k : Nat) : NzE (p.unexp k : PR α) := by
 intro c a h
 unfold PE.unexp at h
 split at h <;> cases h <;> decide
theorem nz_opdsG {g : Nat → PR (Option Opd)} (hg : ∀ k, NzE (g k)) : ∀ (m k : Nat) (acc : List Opd), NzE (opdsG g m k acc)
 | 0, _, _ => fun _ _ h => by cases h
 | m + 1, k, acc => by
  intro c a h
  unfold opdsG at h
  cases hr : g k with
  | out => rw [hr] at h; cases h
  | err e b => rw [hr] at h; cases h; exact hg k _ _ hr
  | ok o k' =>
   rw [hr] at h
   cases o with
   | none => cases h
   | some x => exact nz_opdsG hg m k' _ c a h
theorem nz_exprG {p : PE} {g : Nat → PR (Option Opd)} (hg : ∀ k, NzE (g k)) (k : Nat) : NzE (p.exprG g k) := by
 unfold PE.exprG
 refine NzE.then (nz_opdsG hg _ _ _) (fun s k' => ?_)
 split
 ·exact nz_unexp _ _
 ·split
  ·rename_i h
   intro c a e
   cases e
   exact h
  ·exact NzE.ok _ _
theorem nz_punct (p : PE) (k : Nat) (s : List UInt8) : NzE (p.punct k s) := by
 unfold PE.punct
 split
 ·exact NzE.ok _ _
 ·exact nz_unexp _ _
theorem nz_name (p : PE) (k : Nat) : NzE (p.name k) := by
 unfold PE.name
 split
 ·exact NzE.ok _ _
 ·exact nz_unexp _ _
theorem nz_parG {p : PE} {g : Nat → PR (Option Opd)} (hg : ∀ k, NzE (g k)) (k : Nat) : NzE (p.parG g k) := by
 unfold PE.parG
 refine NzE.then (nz_exprG hg _) (fun t k1 => NzE.then ?_ (fun u k2 => NzE.then (nz_punct p _ _) (fun _ _ => NzE.ok _ _)))
 split
 ·exact NzE.then (nz_exprG hg _) (fun _ _ => NzE.ok _ _)
 ·exact NzE.ok _ _
theorem nz_bindG {p : PE} {g : Nat → PR (Option Opd)} (hg : ∀ k, NzE (g k)) (kd : Int) (e : List UInt8) (k : Nat) : NzE (p.bindG g kd e k) := by
 unfold PE.bindG
 have hb : NzE (p.bindN (k + 1)) := by
  unfold PE.bindN
  split
  ·exact NzE.ok _ _
  ·exact nz_name _ _
 refine NzE.then hb (fun n k1 => NzE.then ?_ (fun l k2 => NzE.then (nz_punct p _ _) (fun _ k3 => NzE.then (nz_exprG hg _) (fun _ _ => NzE.ok _ _))))
 split
 ·exact NzE.then (nz_exprG hg _) (fun _ _ => NzE.ok _ _)
 ·exact NzE.ok _ _
theorem nz_opdF (p : PE) : ∀ f k, NzE (p.opdF f k)
 | 0, _ => fun _ _ h => by cases h
 | f + 1, k => by
  rw [PE.opdF]
  unfold PE.opdG
  have hg := nz_opdF p f
  repeat' split
  all_goals first | exact NzE.ok _ _ | exact NzE.then (nz_parG hg _) (fun _ _ => NzE.ok _ _) | exact NzE.then (nz_bindG hg _ _ _) (fun _ _ => NzE.ok _ _)
theorem nz_expr (p : PE) (k : Nat) : NzE (p.expr k) := nz_exprG (nz_opdF p _) k
end Lfc
namespace Lfc
def digN (n : Int) : List UInt8 → Int
 | [] => n
 | c :: r => if c.toNat < 48 ∨ 57 < c.toNat then -1 else digN (10 * n + ((c.toNat : Int) - 48)) r
def digitsP (s : List UInt8) : Int := if s = [] ∨ 4 < s.length ∨ ((s.headD 0).toNat = 48 ∧ 1 < s.length) then -1 else digN 0 s
def PE.number (p : PE) (k : Nat) (least most : Int) : PR Int := if (p.pk k).kind ≠ 1 ∨ digitsP (p.pk k).text < least ∨ most < digitsP (p.pk k).text then p.unexp k else .ok (digitsP (p.pk k).text) (k + 1)
def idxW (s : List UInt8) : List (List UInt8) → Int
 | [] => -1
 | a :: r => if a = s then 0 else if idxW s r < 0 then -1 else idxW s r + 1
def PE.word (p : PE) (k : Nat) (ws : List (List UInt8)) : PR Int := if idxW (p.pk k).text ws < 0 ∨ (p.pk k).kind ≠ 1 then p.unexp k else .ok (idxW (p.pk k).text ws) (k + 1)
abbrev Bnd := List UInt8 × Raw
structure Itm where
 kind : Int
 pos : Nat
 name : List UInt8
 type : List Raw
 value : List Raw
 op : Op
 som : List Bnd
 params : List Bnd
 blocks : List (List UInt8)
 fams : List (List UInt8)
 signs : List Int
 orders : List (List UInt8 × Ord)
 left : Ord
 right : Ord
 rel : Int
 count : Int
def Ord.nil : Ord := .node 0 0 []
def Itm.new (a : Nat) : Itm := ⟨0, a, [], [], [], ⟨[], 0, 0⟩, [], [], [], [], [], [], Ord.nil, Ord.nil, 0, 0⟩
abbrev ItR := PR (Itm × List Op)
def PE.declP (p : PE) (it : Itm) (k : Nat) : ItR :=
 (p.name k).then fun n k1 =>
  if p.is k1 2 [58] then (p.expr (k1 + 1)).then fun t k2 =>
   if p.is k2 2 [61] then (p.punct k2 [61]).then fun _ k3 => (p.expr k3).then fun v k4 => (p.punct k4 [46]).then fun _ k5 => .ok ({ it with kind := 2, name := n, type := [t], value := [v] }, p.ops) k5
   else (p.punct k2 [46]).then fun _ k3 => .ok ({ it with kind := 1, name := n, type := [t] }, p.ops) k3
  else (p.punct k1 [61]).then fun _ k3 => (p.expr k3).then fun v k4 => (p.punct k4 [46]).then fun _ k5 => .ok ({ it with kind := 2, name := n, value := [v] }, p.ops) k5
def PE.opP (p : PE) (it : Itm) (fix : Int) (k : Nat) : ItR :=
 (p.number k 0 99).then fun c k1 => (p.name k1).then fun n k2 => (p.punct k2 [46]).then fun _ k3 =>
  if (added p.ops ⟨n, fix, c⟩).2 ≠ 0 then .err (added p.ops ⟨n, fix, c⟩).2 (p.pk k1).pos else .ok ({ it with kind := 3, op := ⟨n, fix, c⟩ }, (added p.ops ⟨n, fix, c⟩).1) k3
def fixes : List (List UInt8) := [[110, 111, 110, 101], [108, 101, 102, 116], [114, 105, 103, 104, 116]]
def PE.infixP (p : PE) (it : Itm) (k : Nat) : ItR := (p.word k fixes).then fun i k1 => p.opP it (3 + i) k1
def PE.namedP (p : PE) (kind : Int) (it : Itm) (k : Nat) : ItR := (p.name k).then fun n k1 => (p.punct k1 [46]).then fun _ k2 => .ok ({ it with kind := kind, name := n }, p.ops) k2
def PE.queryP (p : PE) (it : Itm) (k : Nat) : ItR := (p.number k 0 1000).then fun c k1 => (p.expr k1).then fun t k2 => (p.punct k2 [46]).then fun _ k3 => .ok ({ it with kind := 13, count := c, type := [t] }, p.ops) k3
def bindersF (p : PE) : Nat → Nat → List Bnd → PR (List Bnd)
 | 0, _, _ => .out
 | f + 1, k, acc => (p.punct k [123]).then fun _ k1 => (p.name k1).then fun n k2 => (p.punct k2 [58]).then fun _ k3 => (p.expr k3).then fun t k4 => (p.punct k4 [125]).then fun _ k5 =>
  if p.is k5 2 [123] then bindersF p f k5 (acc ++ [(n, t)]) else .ok (acc ++ [(n, t)]) k5
def PE.binders (p : PE) (k : Nat) : PR (List Bnd) := bindersF p (p.toks.length + 1) k []
def PE.blockP (p : PE) (it : Itm) (k : Nat) : ItR :=
 (p.name k).then fun n k1 => (p.punct k1 [58]).then fun _ k2 =>
  (if p.is k2 1 [115, 111, 109, 101] then p.binders (k2 + 1) else .ok [] k2).then fun s k3 => (p.word k3 [[98, 108, 111, 99, 107]]).then fun _ k4 => (p.binders k4).then fun q k5 => (p.punct k5 [46]).then fun _ k6 =>
   .ok ({ it with kind := 4, name := n, som := s, params := q }, p.ops) k6
def barsF (p : PE) : Nat → Nat → List (List UInt8) → PR (List (List UInt8))
 | 0, _, _ => .out
 | f + 1, k, acc => if p.is k 1 [124] then (p.name (k + 1)).then fun n k1 => barsF p f k1 (acc ++ [n]) else .ok acc k
def namesF (p : PE) : Nat → Nat → List (List UInt8) → PR (List (List UInt8))
 | 0, _, _ => .out
 | f + 1, k, acc => if p.isNm k then (p.name k).then fun n k1 => namesF p f k1 (acc ++ [n]) else .ok acc k
def PE.worldsP (p : PE) (it : Itm) (k : Nat) : ItR :=
 (p.punct k [40]).then fun _ k1 =>
  (if p.isNm k1 then (p.name k1).then fun n k2 => barsF p (p.toks.length + 1) k2 [n] else .ok [] k1).then fun bs k2 => (p.punct k2 [41]).then fun _ k3 => (p.name k3).then fun n k4 =>
   (namesF p (p.toks.length + 1) k4 [n]).then fun fs k5 => (p.punct k5 [46]).then fun _ k6 => .ok ({ it with kind := 5, blocks := bs, fams := fs }, p.ops) k6
def signs : List (List UInt8) := [[43], [45], [42]]
def signsF (p : PE) : Nat → Nat → List Int → PR (List Int)
 | 0, _, _ => .out
 | f + 1, k, acc => if p.is k 2 [46] then .ok acc (k + 1) else (p.word k signs).then fun i k1 => signsF p f k1 (acc ++ [1 + i])
def PE.modeP (p : PE) (it : Itm) (k : Nat) : ItR := (p.name k).then fun n k1 => (signsF p (p.toks.length + 1) k1 []).then fun l k2 => .ok ({ it with kind := 6, name := n, signs := l }, p.ops) k2
def partsF (p : PE) (g : Nat → PR Ord) (end_ : List UInt8) : Nat → Nat → List Ord → PR (List Ord)
 | 0, _, _ => .out
 | f + 1, k, acc => if acc ≠ [] ∧ p.is k 2 end_ then .ok acc k else (g k).then fun x k1 => partsF p g end_ f k1 (acc ++ [x])
def PE.orderF (p : PE) : Nat → Nat → Nat → PR Ord
 | 0, _, _ => .out
 | f + 1, o, k =>
  if p.is k 2 [91] then (if o + 1 = 128 then .err 2 (p.pk k).pos else (partsF p (p.orderF f (o + 1)) [93] (p.toks.length + 1) (k + 1) []).then fun l k1 => .ok (.node 3 0 l) (k1 + 1))
  else if p.is k 2 [123] then (if o + 1 = 128 then .err 2 (p.pk k).pos else (partsF p (p.orderF f (o + 1)) [125] (p.toks.length + 1) (k + 1) []).then fun l k1 => .ok (.node 2 0 l) (k1 + 1))
  else (p.number k 1 64).then fun n k1 => .ok (.node 1 n []) k1
def PE.order (p : PE) (k : Nat) : PR Ord := p.orderF 128 0 k
def ordersF (p : PE) : Nat → Nat → List (List UInt8 × Ord) → PR (List (List UInt8 × Ord))
 | 0, _, _ => .out
 | f + 1, k, acc => if acc = [] ∨ p.isNm k then (p.name k).then fun n k1 => (p.order k1).then fun o k2 => ordersF p f k2 (acc ++ [(n, o)]) else .ok acc k
def PE.ordersP (p : PE) (kind : Int) (it : Itm) (k : Nat) : ItR := (ordersF p (p.toks.length + 1) k []).then fun l k1 => (p.punct k1 [46]).then fun _ k2 => .ok ({ it with kind := kind, orders := l }, p.ops) k2
def rels : List (List UInt8) := [[60], [60, 61]]
def PE.reducesP (p : PE) (it : Itm) (k : Nat) : ItR :=
 (p.name k).then fun n k1 => (p.order k1).then fun a k2 =>
  (if p.is k2 2 [61] then (.ok 3 (k2 + 1) : PR Int) else (p.word k2 rels).then fun i k3 => .ok (1 + i) k3).then fun r k3 => (p.order k3).then fun b k4 => (p.punct k4 [46]).then fun _ k5 =>
   .ok ({ it with kind := 12, name := n, left := a, rel := r, right := b }, p.ops) k5
def dirs : List (List UInt8) := [[105, 110, 102, 105, 120], [112, 114, 101, 102, 105, 120], [112, 111, 115, 116, 102, 105, 120], [98, 108, 111, 99, 107], [119, 111, 114, 108, 100, 115], [109, 111, 100, 101], [99, 111, 118, 101, 114, 115], [117, 110, 105, 113, 117, 101], [115, 116, 114, 105, 99, 116], [116, 101, 114, 109, 105, 110, 97, 116, 101, 115], [116, 111, 116, 97, 108], [114, 101, 100, 117, 99, 101, 115], [113, 117, 101, 114, 121]]
def PE.dirP (p : PE) : Int → Itm → Nat → ItR
 | 0 => p.infixP
 | 1 => fun it => p.opP it 1
 | 2 => fun it => p.opP it 2
 | 3 => p.blockP
 | 4 => p.worldsP
 | 5 => p.modeP
 | 6 => p.namedP 7
 | 7 => p.namedP 8
 | 8 => p.namedP 9
 | 9 => p.ordersP 10
 | 10 => p.ordersP 11
 | 11 => p.reducesP
 | _ => p.queryP
def PE.itemP (p : PE) (before : Nat) (k : Nat) : ItR :=
 if before = 512 then .err 7 (p.pk k).pos
 else if (p.pk k).kind = 3 then (if idxW (p.pk k).text dirs < 0 then .err 23 (p.pk k).pos else p.dirP (idxW (p.pk k).text dirs) (Itm.new (p.pk k).pos) (k + 1))
 else if p.isNm k then p.declP (Itm.new (p.pk k).pos) k
 else p.unexp k
def itemsF (toks : List Tok) (fin : Nat) : Nat → Nat → List Op → List Itm → PR (List Itm × List Op)
 | 0, _, _, _ => .out
 | f + 1, k, l, acc => if k < toks.length then (PE.itemP ⟨toks, fin, l⟩ acc.length k).then fun x k1 => itemsF toks fin f k1 x.2 (acc ++ [x.1]) else .ok (acc, l) k
def itemsP (toks : List Tok) (fin : Nat) (l : List Op) : PR (List Itm × List Op) := itemsF toks fin (toks.length + 1) 0 l []
def extendP (l : List Op) (s : List UInt8) : PR (List Itm × List Op) := if (lex s).2.1 ≠ 0 then .err (lex s).2.1 (lex s).2.2 else itemsP (lex s).1 s.length l
end Lfc
namespace Lfc
theorem PR.then_okE {α β : Type} (x : α) (k : Nat) (f : α → Nat → PR β) : (PR.ok x k).then f = f x k := rfl
theorem PR.then_errE {α β : Type} (c : Int) (a : Nat) (f : α → Nat → PR β) : (PR.err c a : PR α).then f = .err c a := rfl
theorem PR.cases {α : Type} {r : PR α} (h : r ≠ .out) : (∃ c a, r = .err c a) ∨ ∃ x k, r = .ok x k := by
 cases r with
 | out => exact absurd rfl h
 | err c a => exact .inl ⟨c, a, rfl⟩
 | ok x k => exact .inr ⟨x, k, rfl⟩
def Fair {α : Type} (s : Nat) (p : PE) (k : Nat) (r : PR α) : Prop := r ≠ .out ∧ NzE r ∧ ∀ x k', r = .ok x k' → k + s ≤ k' ∧ k' ≤ p.toks.length
theorem Fair.ok {α : Type} {p : PE} {k : Nat} (x : α) (hk : k ≤ p.toks.length) : Fair 0 p k (.ok x k) := ⟨by simp, NzE.ok _ _, fun y k' e => by cases e; exact ⟨Nat.le_refl _, hk⟩⟩
theorem Fair.okn {α : Type} {p : PE} {k k1 s : Nat} (x : α) (h : k + s ≤ k1) (hk : k1 ≤ p.toks.length) : Fair s p k (.ok x k1) := ⟨by simp, NzE.ok _ _, fun y k' e => by cases e; exact ⟨h, hk⟩⟩
theorem Fair.err {α : Type} {p : PE} {k s : Nat} {c : Int} (a : Nat) (hc : c ≠ 0) : Fair s p k (.err c a : PR α) := ⟨by simp, fun c' a' e => by cases e; exact hc, fun y k' e => by cases e⟩
theorem Fair.weak {α : Type} {p : PE} {k s s' : Nat} {r : PR α} (h : Fair s p k r) (hs : s' ≤ s) : Fair s' p k r := ⟨h.1, h.2.1, fun x k' e => ⟨by have := (h.2.2 x k' e).1; omega, (h.2.2 x k' e).2⟩⟩
theorem Fair.then {α β : Type} {p : PE} {k s : Nat} {r : PR α} {f : α → Nat → PR β} (h : Fair s p k r) (hf : ∀ x k1, k + s ≤ k1 → k1 ≤ p.toks.length → Fair 0 p k1 (f x k1)) : Fair s p k (r.then f) := by
 obtain ⟨h1, h2, h3⟩ := h
 cases r with
 | out => exact absurd rfl h1
 | err c a => exact ⟨by simp [PR.then], fun c' a' e => h2 c' a' (by simpa [PR.then] using e), fun x k' e => by cases e⟩
 | ok x k1 =>
  obtain ⟨h4, h5⟩ := h3 x k1 rfl
  have := hf x k1 h4 h5
  exact ⟨this.1, this.2.1, fun y k' e => ⟨by have := (this.2.2 y k' e).1; omega, (this.2.2 y k' e).2⟩⟩
theorem Fair.unexp {α : Type} (p : PE) (k s : Nat) : Fair s p k (p.unexp k : PR α) := ⟨p.unexp_ne k, nz_unexp p k, fun x k' e => (PE.unexp_ok e).elim⟩
theorem fair_punct (p : PE) (k : Nat) (s : List UInt8) : Fair 1 p k (p.punct k s) := ⟨punct_ne p k s, nz_punct p k s, fun x k' e => by have := PE.punct_ok e; omega⟩
theorem fair_name (p : PE) (k : Nat) : Fair 1 p k (p.name k) := ⟨name_neo p k, nz_name p k, fun x k' e => by have := PE.name_ok e; omega⟩
theorem fair_expr (p : PE) (k : Nat) (hk : k ≤ p.toks.length) : Fair 1 p k (p.expr k) := ⟨expr_ne p k, nz_expr p k, fun x k' e => by have := exprG_b (opdF_b p _) e; omega⟩
theorem fair_number (p : PE) (k : Nat) (a b : Int) : Fair 1 p k (p.number k a b) := by
 unfold PE.number
 split
 ·exact Fair.unexp p k 1
 ·rename_i h
  have := p.pk_lt (k := k) (by intro e; exact h (.inl (by omega)))
  exact Fair.okn _ (Nat.le_refl _) this
theorem fair_word (p : PE) (k : Nat) (ws : List (List UInt8)) : Fair 1 p k (p.word k ws) := by
 unfold PE.word
 split
 ·exact Fair.unexp p k 1
 ·rename_i h
  have := p.pk_lt (k := k) (by intro e; exact h (.inr (by omega)))
  exact Fair.okn _ (Nat.le_refl _) this
theorem is_ltk {p : PE} {k : Nat} {kd : Int} {s : List UInt8} (hkd : kd ≠ 0) (h : p.is k kd s = true) : k < p.toks.length := by
 unfold PE.is at h
 simp only [Bool.and_eq_true, decide_eq_true_eq] at h
 exact p.pk_lt (by omega)
theorem fair_decl (p : PE) (it : Itm) (k : Nat) : Fair 1 p k (p.declP it k) := by
 unfold PE.declP
 refine (fair_name p k).then fun n k1 _ h1 => ?_
 split
 ·rename_i h
  have hl := PE.is_lt h
  refine (Fair.then (k := k1 + 1) (fair_expr p _ hl) fun t k2 _ h2 => ?_) |> fun H => (show Fair 0 p k1 _ from ⟨H.1, H.2.1, fun x k' e => ⟨by have := (H.2.2 x k' e).1; omega, (H.2.2 x k' e).2⟩⟩)
  split
  ·refine ((fair_punct p k2 _).then fun _ k3 _ h3 => ((fair_expr p k3 h3).then fun v k4 _ h4 => ((fair_punct p k4 _).then fun _ k5 _ h5 => Fair.ok _ h5).weak (Nat.zero_le _)).weak (Nat.zero_le _)).weak (Nat.zero_le _)
  ·exact ((fair_punct p k2 _).then fun _ k3 _ h3 => Fair.ok _ h3).weak (Nat.zero_le _)
 ·exact ((fair_punct p k1 _).then fun _ k3 _ h3 => ((fair_expr p k3 h3).then fun v k4 _ h4 => ((fair_punct p k4 _).then fun _ k5 _ h5 => Fair.ok _ h5).weak (Nat.zero_le _)).weak (Nat.zero_le _)).weak (Nat.zero_le _)
theorem fair_op (p : PE) (it : Itm) (fix : Int) (k : Nat) : Fair 1 p k (p.opP it fix k) := by
 unfold PE.opP
 refine (fair_number p k _ _).then fun c k1 _ h1 => ((fair_name p k1).then fun n k2 _ h2 => ((fair_punct p k2 _).then fun _ k3 _ h3 => ?_).weak (Nat.zero_le _)).weak (Nat.zero_le _)
 split
 ·rename_i h
  exact Fair.err _ h
 ·exact Fair.ok _ h3
theorem fair_infix (p : PE) (it : Itm) (k : Nat) : Fair 1 p k (p.infixP it k) := (fair_word p k _).then fun i k1 _ h1 => (fair_op p it _ k1).weak (Nat.zero_le _)
theorem fair_named (p : PE) (kd : Int) (it : Itm) (k : Nat) : Fair 1 p k (p.namedP kd it k) := (fair_name p k).then fun n k1 _ h1 => ((fair_punct p k1 _).then fun _ k2 _ h2 => Fair.ok _ h2).weak (Nat.zero_le _)
theorem fair_query (p : PE) (it : Itm) (k : Nat) : Fair 1 p k (p.queryP it k) := (fair_number p k _ _).then fun c k1 _ h1 => ((fair_expr p k1 h1).then fun t k2 _ h2 => ((fair_punct p k2 _).then fun _ k3 _ h3 => Fair.ok _ h3).weak (Nat.zero_le _)).weak (Nat.zero_le _)
theorem fair_bindersF (p : PE) : ∀ (f k : Nat) (acc : List Bnd), p.toks.length < f + k → k ≤ p.toks.length → Fair 1 p k (bindersF p f k acc)
 | 0, k, acc, hf, hk => by omega
 | f + 1, k, acc, hf, hk => by
  rw [bindersF]
  refine (fair_punct p k _).then fun _ k1 g1 h1 => ((fair_name p k1).then fun n k2 g2 h2 => ((fair_punct p k2 _).then fun _ k3 g3 h3 => ((fair_expr p k3 h3).then fun t k4 g4 h4 => ((fair_punct p k4 _).then fun _ k5 g5 h5 => ?_).weak (Nat.zero_le _)).weak (Nat.zero_le _)).weak (Nat.zero_le _)).weak (Nat.zero_le _)
  split
  ·exact (fair_bindersF p f k5 _ (by omega) h5).weak (Nat.zero_le _)
  ·exact Fair.ok _ h5
theorem fair_binders (p : PE) (k : Nat) (hk : k ≤ p.toks.length) : Fair 1 p k (p.binders k) := fair_bindersF p _ k [] (by omega) hk
theorem fair_block (p : PE) (it : Itm) (k : Nat) : Fair 1 p k (p.blockP it k) := by
 unfold PE.blockP
 refine (fair_name p k).then fun n k1 _ h1 => ((fair_punct p k1 _).then fun _ k2 _ h2 => (Fair.then ?_ fun s k3 _ h3 => ((fair_word p k3 _).then fun _ k4 _ h4 => ((fair_binders p k4 h4).then fun q k5 _ h5 => ((fair_punct p k5 _).then fun _ k6 _ h6 => Fair.ok _ h6).weak (Nat.zero_le _)).weak (Nat.zero_le _)).weak (Nat.zero_le _))).weak (Nat.zero_le _)
 split
 ·rename_i h
  have H := fair_binders p (k2 + 1) (is_ltk (by decide) h)
  exact ⟨H.1, H.2.1, fun x k' e => by have := H.2.2 x k' e; omega⟩
 ·exact Fair.ok _ h2
theorem fair_barsF (p : PE) : ∀ (f k : Nat) (acc : List (List UInt8)), p.toks.length < f + k → k ≤ p.toks.length → Fair 0 p k (barsF p f k acc)
 | 0, k, acc, hf, hk => by omega
 | f + 1, k, acc, hf, hk => by
  rw [barsF]
  split
  ·have H := (fair_name p (k + 1)).then fun n k1 g1 h1 => fair_barsF p f k1 (acc ++ [n]) (by omega) h1
   exact ⟨H.1, H.2.1, fun x k' e => by have := H.2.2 x k' e; omega⟩
  ·exact Fair.ok _ hk
theorem fair_namesF (p : PE) : ∀ (f k : Nat) (acc : List (List UInt8)), p.toks.length < f + k → k ≤ p.toks.length → Fair 0 p k (namesF p f k acc)
 | 0, k, acc, hf, hk => by omega
 | f + 1, k, acc, hf, hk => by
  rw [namesF]
  split
  ·exact ((fair_name p k).then fun n k1 g1 h1 => fair_namesF p f k1 (acc ++ [n]) (by omega) h1).weak (Nat.zero_le _)
  ·exact Fair.ok _ hk
theorem fair_worlds (p : PE) (it : Itm) (k : Nat) : Fair 1 p k (p.worldsP it k) := by
 unfold PE.worldsP
 refine (fair_punct p k _).then fun _ k1 _ h1 => (Fair.then ?_ fun bs k2 _ h2 => ((fair_punct p k2 _).then fun _ k3 _ h3 => ((fair_name p k3).then fun n k4 _ h4 => ((fair_namesF p _ k4 _ (by omega) h4).then fun fs k5 _ h5 => ((fair_punct p k5 _).then fun _ k6 _ h6 => Fair.ok _ h6).weak (Nat.zero_le _)).weak (Nat.zero_le _)).weak (Nat.zero_le _)).weak (Nat.zero_le _))
 split
 ·exact ((fair_name p k1).then fun n k2 _ h2 => fair_barsF p _ k2 _ (by omega) h2).weak (Nat.zero_le _)
 ·exact Fair.ok _ h1
theorem fair_signsF (p : PE) : ∀ (f k : Nat) (acc : List Int), p.toks.length < f + k → k ≤ p.toks.length → Fair 1 p k (signsF p f k acc)
 | 0, k, acc, hf, hk => by omega
 | f + 1, k, acc, hf, hk => by
  rw [signsF]
  split
  ·rename_i h
   exact Fair.okn _ (Nat.le_refl _) (PE.is_lt h)
  ·exact (fair_word p k _).then fun i k1 g1 h1 => (fair_signsF p f k1 _ (by omega) h1).weak (Nat.zero_le _)
theorem fair_mode (p : PE) (it : Itm) (k : Nat) : Fair 1 p k (p.modeP it k) := (fair_name p k).then fun n k1 _ h1 => ((fair_signsF p _ k1 [] (by omega) h1).then fun l k2 _ h2 => Fair.ok _ h2).weak (Nat.zero_le _)
theorem fair_partsF (p : PE) (g : Nat → PR Ord) (hg : ∀ k, k ≤ p.toks.length → Fair 1 p k (g k)) (e : List UInt8) : ∀ (f k : Nat) (acc : List Ord), p.toks.length < f + k → k ≤ p.toks.length → Fair 0 p k (partsF p g e f k acc) ∧ ∀ l k', partsF p g e f k acc = .ok l k' → k' < p.toks.length
 | 0, k, acc, hf, hk => by omega
 | f + 1, k, acc, hf, hk => by
  rw [partsF]
  split
  ·rename_i h
   have := PE.is_lt h.2
   exact ⟨Fair.ok _ hk, fun l k' e => by cases e; exact this⟩
  ·refine ⟨((hg k hk).then fun x k1 g1 h1 => (fair_partsF p g hg e f k1 _ (by omega) h1).1).weak (Nat.zero_le _), fun l k' e' => ?_⟩
   obtain ⟨x, k1, e1, e2⟩ := PR.then_ok e'
   have := (hg k hk).2.2 _ _ e1
   exact (fair_partsF p g hg e f k1 _ (by omega) this.2).2 _ _ e2
theorem fair_orderF (p : PE) : ∀ (f o k : Nat), 128 ≤ f + o → k ≤ p.toks.length → o < 128 → Fair 1 p k (p.orderF f o k)
 | 0, o, k, hf, hk, ho => by omega
 | f + 1, o, k, hf, hk, ho => by
  have br : ∀ (c : Int) (e : List UInt8), k < p.toks.length → Fair 1 p k (if o + 1 = 128 then .err 2 (p.pk k).pos else (partsF p (p.orderF f (o + 1)) e (p.toks.length + 1) (k + 1) []).then fun l k1 => (.ok (Ord.node c 0 l) (k1 + 1) : PR Ord)) := by
   intro c e hl
   split
   ·exact Fair.err _ (by decide)
   ·rename_i hne
    obtain ⟨h1, h2⟩ := fair_partsF p (p.orderF f (o + 1)) (fun k hk => fair_orderF p f (o + 1) k (by omega) hk (by omega)) e (p.toks.length + 1) (k + 1) [] (by omega) hl
    cases hr : partsF p (p.orderF f (o + 1)) e (p.toks.length + 1) (k + 1) [] with
    | out => exact absurd hr h1.1
    | err c' a => rw [hr] at h1; exact Fair.err _ (h1.2.1 _ _ rfl)
    | ok l k1 =>
     have h3 := h2 _ _ hr
     have h4 := h1.2.2 _ _ hr
     exact Fair.okn _ (by omega) h3
  rw [PE.orderF]
  split
  ·rename_i h
   exact br 3 _ (PE.is_lt h)
  ·split
   ·rename_i h
    exact br 2 _ (PE.is_lt h)
   ·exact (fair_number p k _ _).then fun n k1 _ h1 => Fair.ok _ h1
theorem fair_order (p : PE) (k : Nat) (hk : k ≤ p.toks.length) : Fair 1 p k (p.order k) := fair_orderF p 128 0 k (by decide) hk (by decide)
theorem fair_ordersF (p : PE) : ∀ (f k : Nat) (acc : List (List UInt8 × Ord)), p.toks.length < f + k → k ≤ p.toks.length → Fair 0 p k (ordersF p f k acc)
 | 0, k, acc, hf, hk => by omega
 | f + 1, k, acc, hf, hk => by
  rw [ordersF]
  split
  ·exact ((fair_name p k).then fun n k1 g1 h1 => ((fair_order p k1 h1).then fun o k2 g2 h2 => fair_ordersF p f k2 _ (by omega) h2).weak (Nat.zero_le _)).weak (Nat.zero_le _)
  ·exact Fair.ok _ hk
theorem fair_orders (p : PE) (kd : Int) (it : Itm) (k : Nat) (hk : k ≤ p.toks.length) : Fair 1 p k (p.ordersP kd it k) := by
 have h := fair_ordersF p (p.toks.length + 1) k [] (by omega) hk
 unfold PE.ordersP
 rw [ordersF, if_pos (.inl rfl)]
 refine Fair.then ((fair_name p k).then fun n k1 g1 h1 => ((fair_order p k1 h1).then fun o k2 g2 h2 => fair_ordersF p _ k2 _ (by omega) h2).weak (Nat.zero_le _)) fun l k1 _ h1 => ((fair_punct p k1 _).then fun _ k2 _ h2 => Fair.ok _ h2).weak (Nat.zero_le _)
theorem fair_reduces (p : PE) (it : Itm) (k : Nat) : Fair 1 p k (p.reducesP it k) := by
 unfold PE.reducesP
 refine (fair_name p k).then fun n k1 _ h1 => ((fair_order p k1 h1).then fun a k2 _ h2 => (Fair.then ?_ fun r k3 _ h3 => ((fair_order p k3 h3).then fun b k4 _ h4 => ((fair_punct p k4 _).then fun _ k5 _ h5 => Fair.ok _ h5).weak (Nat.zero_le _)).weak (Nat.zero_le _))).weak (Nat.zero_le _)
 split
 ·rename_i h
  exact Fair.okn _ (by omega) (PE.is_lt h)
 ·exact ((fair_word p k2 _).then fun i k3 _ h3 => Fair.ok _ h3).weak (Nat.zero_le _)
theorem fair_dir (p : PE) (i : Int) (it : Itm) (k : Nat) (hk : k ≤ p.toks.length) : Fair 1 p k (p.dirP i it k) := by
 unfold PE.dirP
 split <;> first | exact fair_infix p it k | exact fair_op p it _ k | exact fair_block p it k | exact fair_worlds p it k | exact fair_mode p it k | exact fair_named p _ it k | exact fair_orders p _ it k hk | exact fair_reduces p it k | exact fair_query p it k
theorem fair_item (p : PE) (n k : Nat) : Fair 1 p k (p.itemP n k) := by
 unfold PE.itemP
 split
 ·exact Fair.err _ (by decide)
 ·split
  ·rename_i h
   have hl := p.pk_lt (k := k) (by omega)
   split
   ·exact Fair.err _ (by decide)
   ·have H := fair_dir p (idxW (p.pk k).text dirs) (Itm.new (p.pk k).pos) (k + 1) hl
    exact ⟨H.1, H.2.1, fun x k' e => by have := H.2.2 x k' e; omega⟩
  ·split
   ·exact fair_decl p _ k
   ·exact Fair.unexp p k 1
theorem fair_itemsF (toks : List Tok) (n : Nat) : ∀ (f k : Nat) (l : List Op) (acc : List Itm), toks.length < f + k → k ≤ toks.length → itemsF toks n f k l acc ≠ .out ∧ NzE (itemsF toks n f k l acc) ∧ ∀ x k', itemsF toks n f k l acc = .ok x k' → k' = toks.length
 | 0, k, l, acc, hf, hk => by omega
 | f + 1, k, l, acc, hf, hk => by
  rw [itemsF]
  split
  ·rename_i hlt
   have h := fair_item ⟨toks, n, l⟩ acc.length k
   cases hr : PE.itemP ⟨toks, n, l⟩ acc.length k with
   | out => exact absurd hr h.1
   | err c a =>
    rw [hr] at h
    exact ⟨by simp [PR.then], fun c' a' e => h.2.1 c' a' (by simpa [PR.then] using e), fun x k' e => by cases e⟩
   | ok x k1 =>
    have h1 := h.2.2 _ _ hr
    exact fair_itemsF toks n f k1 x.2 (acc ++ [x.1]) (by have := h1.1; omega) h1.2
  ·rename_i hlt
   exact ⟨by simp, NzE.ok _ _, fun x k' e => by cases e; omega⟩
theorem fair_items (toks : List Tok) (n : Nat) (l : List Op) : itemsP toks n l ≠ .out ∧ NzE (itemsP toks n l) := by
 have := fair_itemsF toks n (toks.length + 1) 0 l [] (by omega) (by omega)
 exact ⟨this.1, this.2.1⟩
def OpsB (m : Nat) (r : ItR) : Prop := ∀ x k, r = .ok x k → x.2.length ≤ m
theorem OpsB.then {α : Type} {m : Nat} {r : PR α} {f : α → Nat → ItR} (h : ∀ x k, OpsB m (f x k)) : OpsB m (r.then f) := fun x k e => by
 obtain ⟨y, k1, _, e2⟩ := PR.then_ok e
 exact h y k1 x k e2
theorem OpsB.ok {m : Nat} {x : Itm × List Op} {k : Nat} (h : x.2.length ≤ m) : OpsB m (.ok x k) := fun y k' e => by cases e; exact h
theorem OpsB.err {m : Nat} (c : Int) (a : Nat) : OpsB m (.err c a) := fun y k' e => by cases e
theorem OpsB.unexp {m : Nat} (p : PE) (k : Nat) : OpsB m (p.unexp k) := fun y k' e => (PE.unexp_ok e).elim
theorem added_len (l : List Op) (o : Op) : (added l o).1.length ≤ l.length + 1 := by
 unfold added
 split
 ·simp
 ·split
  ·simp
  ·split <;> simp
theorem opsB_op (p : PE) (it : Itm) (fix : Int) (k : Nat) : OpsB (p.ops.length + 1) (p.opP it fix k) := by
 unfold PE.opP
 refine OpsB.then fun _ _ => OpsB.then fun _ _ => OpsB.then fun _ _ => ?_
 split
 ·exact OpsB.err _ _
 ·exact OpsB.ok (added_len _ _)
theorem opsB_decl (p : PE) (it : Itm) (k : Nat) : OpsB (p.ops.length + 1) (p.declP it k) := by
 unfold PE.declP
 have h : p.ops.length ≤ p.ops.length + 1 := Nat.le_succ _
 refine OpsB.then fun _ _ => ?_
 split
 ·refine OpsB.then fun _ _ => ?_
  split
  ·exact OpsB.then fun _ _ => OpsB.then fun _ _ => OpsB.then fun _ _ => OpsB.ok h
  ·exact OpsB.then fun _ _ => OpsB.ok h
 ·exact OpsB.then fun _ _ => OpsB.then fun _ _ => OpsB.then fun _ _ => OpsB.ok h
theorem opsB_dir (p : PE) (i : Int) (it : Itm) (k : Nat) : OpsB (p.ops.length + 1) (p.dirP i it k) := by
 have h : p.ops.length ≤ p.ops.length + 1 := Nat.le_succ _
 unfold PE.dirP
 split
 ·exact OpsB.then fun _ _ => opsB_op p _ _ _
 ·exact opsB_op p _ _ _
 ·exact opsB_op p _ _ _
 ·exact OpsB.then fun _ _ => OpsB.then fun _ _ => OpsB.then fun _ _ => OpsB.then fun _ _ => OpsB.then fun _ _ => OpsB.then fun _ _ => OpsB.ok h
 ·exact OpsB.then fun _ _ => OpsB.then fun _ _ => OpsB.then fun _ _ => OpsB.then fun _ _ => OpsB.then fun _ _ => OpsB.then fun _ _ => OpsB.ok h
 ·exact OpsB.then fun _ _ => OpsB.then fun _ _ => OpsB.ok h
 ·exact OpsB.then fun _ _ => OpsB.then fun _ _ => OpsB.ok h
 ·exact OpsB.then fun _ _ => OpsB.then fun _ _ => OpsB.ok h
 ·exact OpsB.then fun _ _ => OpsB.then fun _ _ => OpsB.ok h
 ·exact OpsB.then fun _ _ => OpsB.then fun _ _ => OpsB.ok h
 ·exact OpsB.then fun _ _ => OpsB.then fun _ _ => OpsB.ok h
 ·exact OpsB.then fun _ _ => OpsB.then fun _ _ => OpsB.then fun _ _ => OpsB.then fun _ _ => OpsB.then fun _ _ => OpsB.ok h
 ·exact OpsB.then fun _ _ => OpsB.then fun _ _ => OpsB.then fun _ _ => OpsB.ok h
theorem opsB_item (p : PE) (n k : Nat) : OpsB (p.ops.length + 1) (p.itemP n k) := by
 have h : p.ops.length ≤ p.ops.length + 1 := Nat.le_succ _
 unfold PE.itemP
 split
 ·exact OpsB.err _ _
 ·split
  ·split
   ·exact OpsB.err _ _
   ·exact opsB_dir p _ _ _
  ·split
   ·exact opsB_decl p _ k
   ·exact OpsB.unexp p k
theorem item_lt {p : PE} {n k k' : Nat} {x : Itm × List Op} (h : p.itemP n k = .ok x k') : n ≠ 512 := by
 intro e
 unfold PE.itemP at h
 rw [if_pos e] at h
 cases h
end Lfc
